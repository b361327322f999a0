/-
Layer 8's check of a score: voices checked.
Conditions: none but those that each statement names.
-/
import Derived.Test.YtlcnbhiklpfpjaaGreatDoorC08f
import Derived.Test.YtlcnbhiklpfpjaaGreatDoorPvBA
set_option linter.unusedVariables false
set_option linter.unusedSimpArgs false
set_option maxRecDepth 100000
set_option maxHeartbeats 16000000
namespace Go.Proofs.Pv
open Go Go.Proofs
theorem aO2 (e:Ev) (hs:e.small):PC Tryz.prog gl 147 [e.av] (fun v=>v= .bool (!e.right)):=by
 (refine PC.introY 1 mix (fn:=Tryz.f147) Tryz.func147 rfl (names 147 _ Tryz.func147) fun F hF hro W=>?_;simp only[Tryz.ntmps147,Tryz.results147,aJ,Nat.reduceAdd,Nat.reduceSub])
 repeat' (first
  |simp -implicitDefEqProofs (disch:=first|assumption|omega) only[aA,aC,facts,if_pos,Nat.reduceAdd,Ev.av, *]
  |((with_reducible refine dI 69 ?_);refine PC.useY hF (vP e hs) (rfl) fun v hv=>?_;subst hv))
def qK (n:Nat) (p:Nat->Bool):Option Nat:=(List.range n).find? p
def Vo.tieBad (v:Vo) (k:Nat):Bool:=!(Ae (v.l.getD k rP) (v.l.getD (k+1) rP) true)
def Vo.checkR (v:Vo):Int×Int:=
 if v.l.length>64 then(64,70)
 else if oJ (fun e=>!e.right) v.l>=0 then(oJ (fun e=>!e.right) v.l,60)
 else match qK (v.l.length - 1) v.tieBad with
  |some k=>(k,71)
  |none=>(0,0)
def Vo.small (v:Vo):Prop:=v.l.length<=1000000/\ ∀e∈v.l,e.small
def iC:Nat->List Pi->List ME
 |_,[]=>[]
 |n,p::ps=>⟨p.av,.bool true,n⟩::iC (n+1) ps
theorem Fp: ∀(ps:List Pi) (n:Nat),(iC n ps).length=ps.length
 |[],_=>rfl
 |_::ps,n=>by simp [iC,Fp ps]
theorem Dp: ∀(ps:List Pi) (n j:Nat),(iC n ps)[j]?=(ps[j]?).map fun p=>⟨p.av,.bool true,n+j⟩
 |[],_,_=>by simp [iC]
 |p::ps,n,0=>by simp [iC]
 |p::ps,n,j+1=>by simp only[iC,List.getElem?_cons_succ,Dp ps];congr;funext p;congr 1;omega
theorem Xf: ∀(ps:List Pi) (n:Nat) (p:Pi),iC n (ps++[p])=iC n ps++[⟨p.av,.bool true,n+ps.length⟩]
 |[],n,p=>by simp [iC]
 |q::ps,n,p=>by simp only[List.cons_append,iC,Xf ps,List.length_cons];congr 4;omega
theorem same_eq {a b:Pi} (h:a.same b=true):a=b:=by
 simp only[Pi.same,Bool.and_eq_true,beq_iff_eq] at h
 obtain⟨a1,a2,a3⟩:=a
 obtain⟨b1,b2,b3⟩:=b
 simp at h
 obtain⟨rfl,rfl,rfl⟩:=h
 rfl
theorem aV7 (a b:Pi):uK Tryz.prog 9 84 a.av b.av=some (a.same b):=by
 rw[Pi.av,Pi.av,aSn];simp [Pi.same]
theorem aO3 (a:Pi):Ih Tryz.prog 9 84 (.agg [.int .i64 a.step,.int .i64 a.alter,.int .i64 a.octave])=true:=by kernel_rfl
theorem aRp (a:Pi):AV.litEq (.agg [.int .i64 a.step,.int .i64 a.alter,.int .i64 a.octave]) (.agg [.int .i64 a.step,.int .i64 a.alter,.int .i64 a.octave])=true:=by simp [AV.litEq,Yo,aB6]
theorem Qo (x:Pi): ∀(ps:List Pi) (n i:Nat),oZ Tryz.prog 84 (.agg [.int .i64 x.step,.int .i64 x.alter,.int .i64 x.octave]) (iC n ps) i=some ((ps.findIdx? fun y=>x.same y).map (· +i))
 |[],_,_=>rfl
 | p::ps,n,i=>by
  simp only[iC,oZ]
  have e:=aV7 x p
  rw[Pi.av] at e
  rw[e]
  cases h:x.same p with
  |true=>simp [List.findIdx?_cons,h]
  |false=>
   simp only[Qo x ps,List.findIdx?_cons,h,Bool.false_eq_true,if_false,Option.map_map]
   congr 2
   funext k
   simp;omega
theorem vG (f:Nat->Option Nat): ∀(ps:List Pi) (n:Nat),(iC n ps).map (ME.ren f)=iC n ps
 |[],_=>rfl
 |p::ps,n=>by
  simp only[iC,List.map_cons,vG f ps]
  rfl
def aGc (ps:List Pi) (p:Pi):List Pi:=if ps.any (fun y=>p.same y)=true then ps else ps++[p]
def kD (e:Ev):Nat->List Pi
 |0=>[]
 |i+1=>if e.ties.getD i false=true then aGc (kD e i) (e.pitches.getD i ⟨0,0,0⟩) else kD e i
theorem zJ (e:Ev): ∀i,(kD e i).length<=i
 |0=>by simp [kD]
 | i+1=>by
  have:=zJ e i
  simp only[kD,aGc]
  split
  ·split
   ·omega
   ·simp;omega
  ·omega
theorem aRq {ps:List Pi} {x:Pi} {j:Nat} (h:ps.findIdx? (fun y=>x.same y)=some j): ∃(hj:j<ps.length),ps[j]=x/\(iC 0 ps).set j ⟨.agg [.int .i64 x.step,.int .i64 x.alter,.int .i64 x.octave],.bool true,j⟩=iC 0 ps:=by
 rw[List.findIdx?_eq_some_iff_getElem] at h
 obtain⟨h1,h2,_⟩:=h
 have e:=same_eq h2
 refine⟨h1,e.symm,?_⟩
 apply List.ext_getElem?
 intro k
 rw[List.getElem?_set]
 split
 ·rename_i hk
  subst hk
  rw[Dp,List.getElem?_eq_getElem h1,<-e,if_pos (by rw[Fp];exact h1),Nat.zero_add]
  rfl
 ·rfl
theorem aHu {ps:List Pi} {x:Pi}:(ps.any fun y=>x.same y)=(ps.findIdx? fun y=>x.same y).isSome:=by
 cases h:ps.findIdx? (fun y=>x.same y) with
 |none=>rw[List.findIdx?_eq_none_iff] at h;simp only[Option.isSome_none];rw[List.any_eq_false];intro y hy;simp [h y hy]
 |some j=>rw[List.findIdx?_eq_some_iff_getElem] at h;obtain⟨h1,h2,_⟩:=h;simp only[Option.isSome_some];exact List.any_eq_true.2 ⟨_,List.getElem_mem h1,h2⟩
def Fq (T:List Pi) (seen:List Nat):List ME:=(iC 0 T).filter fun e=>!seen.contains e.born
theorem Fv {T:List Pi} {e:ME} (h:e∈iC 0 T): ∃(b:Nat) (hb:b<T.length),e=⟨T[b].av,.bool true,b⟩:=by
 obtain⟨b,hb,rfl⟩:=List.mem_iff_getElem.1 h
 rw[Fp] at hb
 have:=Dp T 0 b
 rw[List.getElem?_eq_getElem (by rw[Fp];exact hb),List.getElem?_eq_getElem hb] at this
 simp only[Option.map_some,Option.some.injEq,Nat.zero_add] at this
 exact⟨b,hb,this⟩
theorem aDm {T:List Pi} {b:Nat} (hb:b<T.length):(⟨T[b].av,.bool true,b⟩:ME)∈iC 0 T:=by
 have:=Dp T 0 b
 rw[List.getElem?_eq_getElem hb] at this
 simp only[Option.map_some,Nat.zero_add] at this
 exact List.mem_of_getElem? this
theorem aO4 {T:List Pi} {seen:List Nat} {e:ME} (h:e∈Fq T seen): ∃(b:Nat) (hb:b<T.length),e=⟨T[b].av,.bool true,b⟩/\b ∉ seen:=by
 unfold Fq at h
 rw[List.mem_filter] at h
 obtain⟨b,hb,rfl⟩:=Fv h.1
 exact⟨b,hb,rfl,by simpa using h.2⟩
theorem aHv {T:List Pi} {seen:List Nat} (h:(Fq T seen).isEmpty=true) {b:Nat} (hb:b<T.length):b∈seen:=by
 have h':Fq T seen=[]:=List.isEmpty_iff.1 h
 unfold Fq at h'
 rw[List.filter_eq_nil_iff] at h'
 have:=h' _ (aDm hb)
 simpa using this
theorem aO5 {P:Program} {G:Nat->Option (List AV)} {s:List AV} {g:Hp} {dst:Option Tmp} {ty:TypeId} {pos:String} {af:Array Edge} {gd:Option (Nat×Bool)} {t k m:Nat} {seen:List Nat} {T:List Pi}
  (hs:s.getD t .ud= .ptr k 0) (hk:g k=some (.mit m T.length seen T.length)) (hm:g m=some (.map (iC 0 T) T.length)):
  Dv P G s g ⟨dst,.next (.tmp t) false,ty,pos,af,gd⟩=some (.branch ((if(Fq T seen).isEmpty then [(.tup [.bool false],[])] else [])++(Fq T seen).map fun e=>(.tup [.bool true,e.key,e.val],[(k,some (.mit m T.length (seen++[e.born]) T.length))]))):=by
 simp only[Dv,ev,hs,hk,hm]
 have h1:(!seen.isEmpty && !(iC 0 T).isEmpty && (iC 0 T).all fun e=>decide (e.born>=T.length))=false:=by
  cases T with
  |nil=>simp [iC]
  |cons p ps=>simp [iC]
 have h2:((iC 0 T).filter fun e=>!seen.contains e.born).filter (fun e=>decide (e.born<T.length))=Fq T seen:=by
  rw[Fq,List.filter_eq_self]
  intro e he
  obtain⟨b,hb,rfl⟩:=Fv (List.mem_filter.1 he).1
  simpa using hb
 have h3:((iC 0 T).filter fun e=>!seen.contains e.born).filter (fun e=>decide (e.born>=T.length))=[]:=by
  rw[List.filter_eq_nil_iff]
  intro e he
  obtain⟨b,hb,rfl⟩:=Fv (List.mem_filter.1 he).1
  simpa using hb
 rw[h1,h2,h3]
 simp
theorem aLl {P:Program} {G:Nat->Option (List AV)} {s:List AV} {g:Hp} {dst:Option Tmp} {ty:TypeId} {pos:String} {af:Array Edge} {gd:Option (Nat×Bool)} {t k m:Nat} {seen:List Nat} {T:List Pi} {b:Nat} (hb:b<T.length)
  (hs:s.getD t .ud= .ptr k 0) (hk:g k=some (.mit m T.length (seen++[b]) T.length)) (hm:g m=some (.map (iC 0 T) T.length)):
  Dv P G s g ⟨dst,.entry (.tmp t),ty,pos,af,gd⟩=some (.val (.tup [T[b].av,.bool true]) []):=by
 have h1:(iC 0 T).find? (fun e=>e.born==b)=some ⟨T[b].av,.bool true,b⟩:=by
  cases h:(iC 0 T).find? (fun e=>e.born==b) with
  |none=>
   rw[List.find?_eq_none] at h
   have:=h _ (aDm hb)
   simp at this
  |some e=>
   have h2:=List.mem_of_find?_eq_some h
   have h3:=List.find?_some h
   obtain⟨c,hc,rfl⟩:=Fv h2
   have:c=b:=by simpa using h3
   subst this;rfl
 simp only[Dv,ev,hs,hk,hm,List.getLast?_append,List.getLast?_singleton,Option.some_or,if_true,h1]
theorem aUe {F:Fence} {P:Program} {G:Nat->Option (List AV)} {W:World} {rng:Bool} {d:Nat} {gds:List (Option Tmp)} {K:Fr->St->Prop} {rest:List kQ} {dd:Option Tmp} {fr:Fr} {st:St} {l:List (AV×List (Nat×Option aI))}
  (h: ∀x∈l,lG P G (OY F P G W rng d) gds K rest (fr.put dd x.1) (st.app x.2)):nT P G (OY F P G W rng d) gds K rest dd fr st (some true) (some (.branch l)):=by
 have:(OY F P G W rng d).both (l.map fun x=>lG P G (OY F P G W rng d) gds K rest (fr.put dd x.1) (st.app x.2)):=by
  have key: ∀X∈(l.map fun x=>lG P G (OY F P G W rng d) gds K rest (fr.put dd x.1) (st.app x.2)),X:=by
   intro X hX
   obtain⟨x,hx,rfl⟩:=List.mem_map.1 hX
   exact h x hx
  cases d with
  |zero=>cases rng<;>exact key
  |succ d=>exact key
 exact this
theorem aGd (e f:Ev): ∀i,Dz i (uA e f true)=(kD e i).all fun p=>f.pitches.any fun y=>p.same y
 |0=>rfl
 | i +1=>by
  have ih:=aGd e f i
  have h1:Dz (i+1) (uA e f true)=(Dz i (uA e f true) && uA e f true i):=by simp [Dz,List.range_succ]
  rw[h1,ih]
  simp only[kD,uA,Bool.true_and]
  cases ht:e.ties.getD i false with
  |false=>simp
  | true=>
   simp only[Bool.not_true,Bool.false_or,if_true,aGc]
   split
   ·rename_i h
    obtain⟨y,hy,hs⟩:=List.any_eq_true.1 h
    have e1:=same_eq hs
    cases h2:(kD e i).all fun p=>f.pitches.any fun y=>p.same y with
    |false=>rfl
    |true=>
     have:=List.all_eq_true.1 h2 y hy
     rw[<-e1] at this
     rw[this];rfl
   ·simp
theorem pY {n:Nat} {p:Nat->Bool} {i:Nat} (hi:i<n) (hp:p i=true) (hprev: ∀j,j<i->p j=false):qK n p=some i:=by
 unfold qK
 rw[List.find?_eq_some_iff_getElem]
 exact⟨hp,i,by simpa using hi,by simp,fun j hj=>by simp [hprev j hj]⟩
theorem mZ {n:Nat} {p:Nat->Bool} (hprev: ∀j,j<n->p j=false):qK n p=none:=by
 unfold qK
 rw[List.find?_eq_none]
 intro x hx
 simp [hprev x (List.mem_range.1 hx)]
theorem Uo: ∀(n:Nat) (l:List Nat),l.Nodup->(∀b∈l,b<n)->l.length<=n
 |0,l,_,h=>by
  cases l with
  |nil=>simp
  |cons a l=>exact absurd (h a (by simp)) (by omega)
 | n+1,l,hd,h=>by
  by_cases hn:n∈l
  ·have h1:=Uo n (l.erase n) (hd.erase n) (fun b hb=>by
    have hb':=(List.Nodup.mem_erase_iff hd).1 hb
    have:=h b hb'.2
    omega)
   rw[List.length_erase_of_mem hn] at h1
   omega
  ·have h1:=Uo n l hd (fun b hb=>by
    have:=h b hb
    have:b≠n:=fun e=>hn (e ▸ hb)
    omega)
   omega
theorem Ro (v:Vo) (hs:v.small):PC Tryz.prog gl 117 [v.av] (fun w=>w= .tup [.int .i64 v.checkR.1,.int .i64 v.checkR.2]):=by
  (refine PC.introY 3 mix (fn:=Tryz.f117) Tryz.func117 rfl (names 117 _ Tryz.func117) fun F hF hro W=>?_;simp only[Tryz.ntmps117,Tryz.results117,aJ,Nat.reduceAdd,Nat.reduceSub])
  repeat' (first
    |simp -implicitDefEqProofs (disch:=first|assumption|omega) only[aA,aC,facts,if_pos,Nat.reduceAdd,Vo.av, *]
    |((with_reducible refine aF (fun _=>?_) (fun _=>?_))<;>try omega)
    |((with_reducible refine dI 146 ?_);refine PC.useY hF (aB3 v.l _ [] (fun e=>!e.right) hs.1 rfl rfl (fun _=>rfl) (fun a ha=>aO2 a (hs.2 a ha))) (rfl) fun v hv=>?_;subst hv))
  · have h:v.l.length>64:=by omega
    simp [Vo.checkR,h]
  · rename_i h1 h2
    have h: ¬v.l.length>64:=by omega
    simp [Vo.checkR,h,h2]
  have h65:v.l.length<=64:=by omega
  refine kL (fD 47 [1,5]) [] 200 v.l.length (fun i (_:Unit)=>⟨[.ud,.ptr 0 0,.ud,.ud,.ud,.int .i64 (i:Nat),.ud,.ud,.ud,.ud,.ud,.ud,.ud,.ud,.ud,.ud,.ud,.ud,.ud,.ud,.ud,.ud,.ud,.ud,.ud,.ud,.ud,.ud,.ud,.ud,.ud,.ud,.ud,.ud,.ud,.ud,.ud,.ud,.ud,.ud,.ud,.ud,.ud,.ud,.ud,.ud,.ud],[]⟩) (fun _ _=>⟨[(0,.cells [.sl 9 (v.l.map Ev.av) .none])],200⟩) (fun i _=> ∀j,j<i->v.tieBad j=false) () oO rfl rfl ?_
  rintro i ⟨⟩ hi hQ
  repeat' (first
    |simp -implicitDefEqProofs (disch:=first|assumption|omega) only[aA,aC,facts,if_pos,Nat.reduceAdd,wrap_in,List.getElem?_eq_getElem,Ev.av, *]
    |((with_reducible refine aF (fun _=>?_) (fun _=>?_))<;>try omega))
  · rename_i hlt
    have hlt':i<v.l.length:=by omega
    have hsm:=hs.2 v.l[i] (List.getElem_mem hlt')
    have hnx:i+1<v.l.length:=by omega
    have hsn:=hs.2 v.l[i+1] (List.getElem_mem hnx)
    have hbad:v.tieBad i=!(Ae v.l[i] v.l[i+1] true):=by rw[Vo.tieBad,getD_at hlt',getD_at hnx]
    generalize he:v.l[i]=e at hsm hbad ⊢
    generalize hf:v.l[i+1]=f at hsn hbad
    obtain⟨hp1,hp2,hp3⟩:=hsm
    (refine Tn hF hro mix names 2 (fn:=Tryz.f148) Tryz.func148 rfl ?_;simp only[Tryz.ntmps148,Tryz.results148,aJ,Nat.reduceAdd,Nat.reduceSub])
    repeat' (simp -implicitDefEqProofs (disch:=first|assumption|omega) only[aA,aC,facts,if_pos,Nat.reduceAdd,Nat.reduceLeDiff,nS, *])
    refine kL (fD 31 [1,3,8,9,10]) [] 300 e.pitches.length (fun j (_:Unit)=>⟨[.ud,.ptr 211 0,.ud,.map 213,.ud,.ud,.ud,.ud,.sl 3 (e.pitches.map Pi.av) .none,.int .i64 (e.pitches.length:Nat),.int .i64 (j:Nat),.ud,.ud,.ud,.ud,.ud,.ud,.ud,.ud,.ud,.ud,.ud,.ud,.ud,.ud,.ud,.ud,.ud,.ud,.ud,.ud],[]⟩) (fun j _=>⟨[(213,.map (iC 0 (kD e j)) (kD e j).length),(211,.cells e.cells),(0,.cells [.sl 9 (v.l.map Ev.av) .none])],300⟩) (fun j _=>(kD e j).length<=j) () (zJ e 0) rfl rfl ?_
    rintro j ⟨⟩ hj -
    by_cases hjl:j<e.pitches.length
    · have hg:e.pitches.getD j ⟨0,0,0⟩=e.pitches[j]:=getD_at hjl
      have hany:=aHu (ps:=kD e j) (x:=e.pitches[j])
      by_cases ht:j<e.ties.length
      · have hg2:e.ties.getD j false=e.ties[j]:=getD_at ht
        cases hfi:(kD e j).findIdx? (fun y=>e.pitches[j].same y) with
        | none=>
          have hT:e.ties[j]=true->kD e (j+1)=kD e j++[e.pitches[j]]:=fun h=>by simp only[kD,hg2,h,if_true,aGc,hg,hany,hfi,Option.isSome_none,Bool.false_eq_true,if_false]
          have hF:e.ties[j]=false->kD e (j+1)=kD e j:=fun h=>by simp only[kD,hg2,h,Bool.false_eq_true,if_false]
          repeat' (first
    |simp -implicitDefEqProofs (disch:=first|assumption|omega) only[aA,aC,facts,if_pos,Nat.reduceAdd,Nat.reduceLeDiff,wrap_in,nS,Ev.cells,List.getElem?_eq_getElem,Pi.av,aO3,Qo,Option.map_none, *]
    |((with_reducible refine aF (fun _=>?_) (fun _=>?_))<;>try omega)
    |((with_reducible refine dL (fun _=>?_) (fun _=>?_))<;>try omega)
    | ((with_reducible refine jE (fun _=>?_) (fun _=>?_))<;>try omega))
          · rename_i h1 h2 h3
            refine fJ () hjl (zJ e (j+1)) ?_ rfl
            have hx:iC 0 (kD e j)++[⟨.agg [.int .i64 e.pitches[j].step,.int .i64 e.pitches[j].alter,.int .i64 e.pitches[j].octave],.bool true,(kD e j).length⟩]=iC 0 (kD e (j+1)):=by rw[hT h3,Xf,Nat.zero_add];rfl
            have hl:(kD e j).length+1=(kD e (j+1)).length:=by rw[hT h3,List.length_append];rfl
            rw[hx,hl]
            refine(show _=some (St.mk ((213,aI.map (List.map (ME.ren (bI 219 [])) _) _)::_) 300) from rfl).trans ?_
            rw[vG];rfl
          · rename_i h1 h2 h3
            refine fJ () hjl (zJ e (j+1)) ?_ rfl
            simp only[hF h3]
            refine(show _=some (St.mk ((213,aI.map (List.map (ME.ren (bI 219 [])) _) _)::_) 300) from rfl).trans ?_
            rw[vG];rfl
        | some q=>
          obtain⟨hq1,hq2,hq3⟩:=aRq hfi
          have hq4:=Dp (kD e j) 0 q
          rw[List.getElem?_eq_getElem hq1,hq2] at hq4
          have hT:kD e (j+1)=kD e j:=by simp only[kD,aGc,hg,hany,hfi,Option.isSome_some,if_true,ite_self]
          repeat' (first
    |simp -implicitDefEqProofs (disch:=first|assumption|omega) only[aA,aC,facts,if_pos,Nat.reduceAdd,Nat.reduceLeDiff,wrap_in,nS,Ev.cells,List.getElem?_eq_getElem,Pi.av,aO3,Qo,aRp, *]
    |((with_reducible refine aF (fun _=>?_) (fun _=>?_))<;>try omega)
    |((with_reducible refine dL (fun _=>?_) (fun _=>?_))<;>try omega)
    | ((with_reducible refine jE (fun _=>?_) (fun _=>?_))<;>try omega))
          all_goals
            refine fJ () hjl (zJ e (j+1)) ?_ rfl
            simp only[hT]
            refine(show _=some (St.mk ((213,aI.map (List.map (ME.ren (bI 219 [])) _) _)::_) 300) from rfl).trans ?_
            rw[vG];rfl
      · have hg2:e.ties.getD j false=false:=by simp [List.getElem?_eq_none (Nat.le_of_not_lt ht)]
        have hT:kD e (j+1)=kD e j:=by simp only[kD,hg2,Bool.false_eq_true,if_false]
        repeat' (first
    |simp -implicitDefEqProofs (disch:=first|assumption|omega) only[aA,aC,facts,if_pos,Nat.reduceAdd,Nat.reduceLeDiff,wrap_in,nS,Ev.cells,List.getElem?_eq_getElem,Pi.av, *]
    |((with_reducible refine aF (fun _=>?_) (fun _=>?_))<;>try omega)
    | ((with_reducible refine jE (fun _=>?_) (fun _=>?_))<;>try omega))
        refine fJ () hjl (zJ e (j+1)) ?_ rfl
        simp only[hT]
        refine(show _=some (St.mk ((213,aI.map (List.map (ME.ren (bI 219 [])) _) _)::_) 300) from rfl).trans ?_
        rw[vG];rfl
    · have hje:j=e.pitches.length:=by omega
      subst hje
      repeat' (first
    |simp -implicitDefEqProofs (disch:=first|assumption|omega) only[aA,aC,facts,Nat.reduceAdd,nS,Ev.cells, *]
    | ((with_reducible refine aF (fun _=>?_) (fun _=>?_))<;>try omega))
      have hall:=aGd e f e.pitches.length
      generalize hTT:kD e e.pitches.length=T at hall ⊢
      have hle:Ae e f true=T.all fun p=>f.pitches.any fun y=>p.same y:=hall
      rw[hle] at hbad
      obtain⟨hf1,hf2,hf3⟩:=hsn
      refine kL (fD 47 [1,5,31]) [] 400 T.length (fun _ (_:List Nat)=>⟨[.ud,.ptr 0 0,.ud,.ud,.ud,.int .i64 (i:Nat),.ud,.ud,.ud,.ud,.ud,.ud,.ud,.ud,.ud,.ud,.ud,.ud,.ud,.ud,.ud,.ud,.ud,.ud,.ud,.ud,.ud,.ud,.ud,.ud,.ud,.ptr 303 0,.ud,.ud,.ud,.ud,.ud,.ud,.ud,.ud,.ud,.ud,.ud,.ud,.ud,.ud,.ud],[]⟩) (fun _ seen=>⟨[(303,.mit 213 T.length seen T.length),(213,.map (iC 0 T) T.length),(211,.cells e.cells),(0,.cells [.sl 9 (v.l.map Ev.av) .none])],400⟩)
        (fun n seen=>seen.length=n/\seen.Nodup/\ ∀b∈seen,∃h:b<T.length,(f.pitches.any fun y=>T[b].same y)=true) [] ⟨rfl,List.nodup_nil,fun b hb=>by cases hb⟩ ?_ rfl ?_
      · refine(show _=some (St.mk (_::(213,aI.map (List.map (ME.ren (bI 304 [])) _) _)::_) 400) from rfl).trans ?_
        rw[vG];rfl
      rintro n seen hn ⟨hl,hnd,hin⟩
      repeat' (first
    |simp -implicitDefEqProofs (disch:=first|assumption|omega) only[aA,aC,nS,Ak, *]
    | with_reducible refine kV ?_)
      unfold aAa
      rw[aO5 (T:=T) (seen:=seen) (k:=303) (m:=213) rfl rfl rfl]
      refine aUe fun x hx=>?_
      rcases List.mem_append.1 hx with hx|hx
      · split at hx
        · rename_i hemp
          obtain rfl:=List.mem_singleton.1 hx
          have hgood:(T.all fun p=>f.pitches.any fun y=>p.same y)=true:=by
            rw[List.all_eq_true]
            intro p hp
            obtain⟨b,hb,rfl⟩:=List.mem_iff_getElem.1 hp
            exact(hin b (aHv hemp hb)).2
          repeat' (simp -implicitDefEqProofs (disch:=first|assumption|omega) only[aA,aC,Nat.reduceAdd,wrap_in, *])
          exact fJ () (by omega) (lX hQ (by rw[hbad,hgood];rfl)) rfl rfl
        · cases hx
      · obtain⟨en,hen,rfl⟩:=List.mem_map.1 hx
        obtain⟨b,hb,rfl,hbs⟩:=aO4 hen
        repeat' (first
    |simp -implicitDefEqProofs (disch:=first|assumption|omega) only[aA,aC,Nat.reduceAdd,nS,Ak, *]
    |with_reducible refine kV ?_)
        unfold aAa
        rw[aLl (k:=303) (m:=213) hb rfl rfl rfl]
        repeat' (first
    |simp -implicitDefEqProofs (disch:=first|assumption|omega) only[aA,aC,facts,if_pos,Nat.reduceAdd,Nat.reduceLT,Nat.reduceLeDiff,wrap_in,Pi.av,List.getElem?_eq_getElem,Qp,Ev.av,hf, *]
    |((with_reducible refine jS 80 ?_);refine dK (Rl f.pitches T[b] hf1) (rfl) ?_)
    |((with_reducible refine dR (fun _=>?_) (fun _=>?_))<;>try omega)
    | ((with_reducible refine fQ ?_);refine gZ _ rfl (by decide+kernel) ?_))
        · rename_i hq
          have hnd':(seen++[b]).Nodup:=by
            rw[List.nodup_append]
            exact⟨hnd,by simp,fun u hu w hw=>by simp at hw;subst hw;intro h;subst h;exact hbs hu⟩
          have hlt2: ∀x∈seen++[b],x<T.length:=by
            intro x hx
            rcases List.mem_append.1 hx with hx|hx
            · exact(hin x hx).1
            · simp at hx;subst hx;exact hb
          have hlen:=Uo _ _ hnd' hlt2
          rw[List.length_append,List.length_singleton] at hlen
          refine fJ (seen++[b]) (by omega) ⟨by rw[List.length_append,List.length_singleton,hl],hnd',?_⟩ ?_ rfl
          · intro x hx
            rcases List.mem_append.1 hx with hx|hx
            · exact hin x hx
            · simp at hx;subst hx;exact⟨hb,hq⟩
          · refine(show _=some (St.mk (_::(213,aI.map (List.map (ME.ren (bI 304 [])) _) _)::_) 400) from rfl).trans ?_
            rw[vG];rfl
        · rename_i hq
          have hwrong:(T.all fun p=>f.pitches.any fun y=>p.same y)=false:=zX hb hq
          rw[hwrong] at hbad
          have h1: ¬v.l.length>64:=by omega
          have h2: ¬oJ (fun e=>!e.right) v.l>=0:=by assumption
          have h3:=pY (n:=v.l.length - 1) (p:=v.tieBad) (i:=i) (by omega) hbad hQ
          simp only[Vo.checkR,if_neg h1,if_neg h2,h3]
  · rename_i hlt
    have h1: ¬v.l.length>64:=by omega
    have h2: ¬oJ (fun e=>!e.right) v.l>=0:=by assumption
    have h3:=mZ (n:=v.l.length - 1) (p:=v.tieBad) (fun j hj=>hQ j (by omega))
    simp only[Vo.checkR,if_neg h1,if_neg h2,h3]
def tkS2 (n1 k:Nat) (r:List (Nat×aI)) (x:Tk):St:=match x with
 | .tok _=>⟨(k,.tok)::r,n1⟩
 |_=>⟨r,n1⟩
def rZ (l:List Ev):Nat->Ra
 |0=>⟨0,1⟩
 |k+1=>(Gz (rZ l k) (l.getD k rP).lenR.1).1
def wV (l:List Ev) (k:Nat):Int:=(Gz (rZ l k) (l.getD k rP).lenR.1).2
theorem aCt (l:List Ev): ∀k,(rZ l k).fits
 |0=>by simp [rZ,Ra.fits,I64]
 |k+1=>aMr
theorem Xb {e:Ev}:e.lenR.1.fits:=by
 unfold Ev.lenR;split
 ·exact aMd
 ·simp [Ra.fits,I64]
def Vo.sumsR (v:Vo):List Ra×Int:=
 if v.checkR.2=0 then
  match qK v.l.length (fun k=>decide (wV v.l k≠0)) with
  |some k=>([],wV v.l k)
  |none=>((List.range (v.l.length+1)).map (rZ v.l),0)
 else([],v.checkR.2)
theorem aCu {v:Vo} {i:Nat} (h:v.checkR.2=0) (hi:i<v.l.length) (hb:wV v.l i≠0) (hQ: ∀j,j<i->wV v.l j=0):v.sumsR=([],wV v.l i):=by
 rw[Vo.sumsR,if_pos h,pY hi (by simpa using hb) (fun j hj=>by simpa using hQ j hj)]
theorem aFb {v:Vo} {i:Nat} (h:v.checkR.2=0) (hi:i=v.l.length) (hQ: ∀j,j<i->wV v.l j=0):v.sumsR=((List.range (i+1)).map (rZ v.l),0):=by
 rw[Vo.sumsR,if_pos h,mZ (fun j hj=>by simpa using hQ j (by omega)),hi]
theorem aCv {l:List Ev} {i:Nat} (hi:i<l.length):((List.range (i+1+1)).map fun k=>(rZ l k).av)=((List.range (i+1)).map fun k=>(rZ l k).av)++[(Gz (rZ l i) l[i].lenR.1).1.av]:=by
 rw[List.range_succ (n:=i+1),List.map_append,<-getD_at hi (d:=rP)];rfl
theorem aIr (v:Vo) (hs:v.small):PC Tryz.prog gl 149 [v.av] (fun w=>w= .tup [.sl 2 (v.sumsR.1.map Ra.av) .none,.int .i64 v.sumsR.2]):=by
 (refine PC.introY 3 mix (fn:=Tryz.f149) Tryz.func149 rfl (names 149 _ Tryz.func149) fun F hF hro W=>?_;simp only[Tryz.ntmps149,Tryz.results149,aJ,Nat.reduceAdd,Nat.reduceSub])
 repeat' (first
  |simp -implicitDefEqProofs (disch:=first|assumption|omega) only[aA,aC,facts,if_pos,Nat.reduceAdd,Nat.reduceLT,Nat.reduceLeDiff,Vo.av, *]
  |((with_reducible refine dL (fun _=>?_) (fun _=>?_))<;>try omega)
  |((with_reducible refine dI 117 ?_);refine PC.useY hF (Ro v hs) (rfl) fun v hv=>?_;subst hv))
 ·rename_i h1
  have h1': ¬v.checkR.2=0:=by simpa using h1
  rw[show v.sumsR=([],v.checkR.2) from if_neg h1'];rfl
 rename_i h1
 have h1':v.checkR.2=0:=by simpa using h1
 refine kL (fD 54 [6,24,25,26]) [(6,100)] 101 v.l.length (fun i (x:Tk)=>⟨[.ud,.ud,.ud,.ud,.ud,.ud,.sl 2 ((List.range (i+1)).map fun k=>(rZ v.l k).av) x,.ud,.ud,.ud,.ud,.ud,.ud,.ud,.ud,.ud,.ud,.ud,.ud,.ud,.ud,.ud,.ud,.ud,.sl 9 (v.l.map Ev.av) .none,.int .i64 (v.l.length:Nat),.int .i64 (i:Nat),.ud,.ud,.ud,.ud,.ud,.ud,.ud,.ud,.ud,.ud,.ud,.ud,.ud,.ud,.ud,.ud,.ud,.ud,.ud,.ud,.ud,.ud,.ud,.ud,.ud,.ud,.ud],[]⟩) (fun _ x=>tkS2 101 100 [(0,.cells [.sl 9 (v.l.map Ev.av) .none])] x) (fun i x=>((x= .full/\i=0)\/x= .tok 100)/\ ∀j,j<i->wV v.l j=0) .full ⟨.inl ⟨rfl,rfl⟩,fun j h=>by omega⟩ ?_ ?_ ?_
 ·simp only[Nat.zero_add,List.range_one,List.map_cons,List.map_nil,rZ];rfl
 ·rfl
 rintro i x hi hQ
 have hlen:((List.range (i+1)).map fun k=>(rZ v.l k).av).length=i+1:=by simp
 have hget:((List.range (i+1)).map fun k=>(rZ v.l k).av)[i]?=some (.agg [.int .i64 (rZ v.l i).num,.int .i64 (rZ v.l i).den]):=by simp [Ra.av]
 have hs1:=hs.1
 rcases hQ with⟨⟨rfl,rfl⟩|rfl,hQ⟩
 all_goals repeat' (first
  |simp -implicitDefEqProofs (disch:=first|assumption|omega) only[aA,aC,facts,if_pos,if_neg,Nat.reduceAdd,Nat.reduceEqDiff,Nat.reduceLT,Nat.reduceLeDiff,Nat.reduceMul,Int.reduceLE,Int.reduceAdd,tkS2,hlen,hget,wrap_in,List.getElem?_eq_getElem,Ev.av,pU, *]
  |((with_reducible refine w_at 160 ?_);refine iZ (Wy (rZ v.l i) v.l[i].lenR.1 (aCt _ _) Xb) (rfl) ?_)
  |((with_reducible refine w_at 160 ?_);refine iZ (Wy (rZ v.l 0) v.l[0].lenR.1 (aCt _ _) Xb) (rfl) ?_)
  |((with_reducible refine aF (fun _=>?_) (fun _=>?_))<;>try omega)
  |((with_reducible refine dL (fun _=>?_) (fun _=>?_))<;>try omega)
  |((with_reducible refine fQ ?_);refine Yb (by decide+kernel) ?_)
  |((with_reducible refine dP ?_ ?_);· decide+kernel)
  |((with_reducible refine dI 159 ?_);refine PC.useY hF (La v.l[i] (hs.2 _ (List.getElem_mem (by omega)))) (rfl) fun v hv=>?_;subst hv)
  |((with_reducible refine dI 159 ?_);refine PC.useY hF (La v.l[0] (hs.2 _ (List.getElem_mem (by omega)))) (rfl) fun v hv=>?_;subst hv))
 ·rename_i h2 h3
  have h3':wV v.l 0≠0:=by rw[wV,getD_at (show 0<v.l.length by omega)];simpa using h3
  rw[aCu h1' (show 0<v.l.length by omega) h3' hQ,wV,getD_at (show 0<v.l.length by omega)];rfl
 ·rename_i h2 h3
  have h3':wV v.l 0=0:=by rw[wV,getD_at (show 0<v.l.length by omega)];simpa using h3
  refine fJ (.tok 100) (by omega) ⟨.inr rfl,lX hQ h3'⟩ ?_ ?_
  ·rfl
  ·simp only[aCv (show 0<v.l.length by omega)];rfl
 ·rw[aFb h1' (i:=0) (show 0=v.l.length by omega) hQ];simp only[List.map_map];rfl
 ·rename_i h2 h3
  have h3':wV v.l i≠0:=by rw[wV,getD_at (show i<v.l.length by omega)];simpa using h3
  rw[aCu h1' (show i<v.l.length by omega) h3' hQ,wV,getD_at (show i<v.l.length by omega)];rfl
 ·rename_i h2 h3
  have h3':wV v.l i=0:=by rw[wV,getD_at (show i<v.l.length by omega)];simpa using h3
  refine fJ (.tok 100) (by omega) ⟨.inr rfl,lX hQ h3'⟩ ?_ ?_
  ·rfl
  ·simp only[aCv (show i<v.l.length by omega)];rfl
 ·rw[aFb h1' (i:=i) (show i=v.l.length by omega) hQ];simp only[List.map_map];rfl
def Vo.lenR (v:Vo):Ra×Int:=if v.sumsR.2=0 then(rZ v.l v.l.length,0) else(⟨0,0⟩,v.sumsR.2)
theorem aKw {v:Vo} (h:v.sumsR.2=0):v.sumsR.1=(List.range (v.l.length+1)).map (rZ v.l):=by
 unfold Vo.sumsR at h ⊢
 split at h
 ·rename_i h1
  rw[if_pos h1]
  split at h
  ·rename_i k hk
   exfalso
   have:=List.find?_some hk
   simp at this
   exact this h
  ·rfl
 ·rename_i h1;exact absurd h h1
theorem aBs (v:Vo) (hs:v.small):PC Tryz.prog gl 118 [v.av] (fun w=>w=pU v.lenR.1 v.lenR.2):=by
 (refine PC.introY 3 mix (fn:=Tryz.f118) Tryz.func118 rfl (names 118 _ Tryz.func118) fun F hF hro W=>?_;simp only[Tryz.ntmps118,Tryz.results118,aJ,Nat.reduceAdd,Nat.reduceSub])
 by_cases h:v.sumsR.2=0
 ·have hl:=aKw h
  have hget:(List.range (v.l.length+1))[v.l.length]?=some v.l.length:=by simp
  have hlen:((List.range (v.l.length+1)).map fun k=>(rZ v.l k).av).length=v.l.length+1:=by simp
  have hs1:=hs.1
  repeat' (first
  |simp -implicitDefEqProofs (disch:=first|assumption|omega) only[aA,aC,facts,if_pos,Nat.reduceAdd,Int.reduceBNe,Vo.av,hl,h,hget,List.map_map,Function.comp,Ra.av, *]
  |((with_reducible refine dI 149 ?_);refine PC.useY hF (aIr v hs) (rfl) fun v hv=>?_;subst hv))
  rw[Vo.lenR,if_pos h];rfl
 ·repeat' (first
  |simp -implicitDefEqProofs (disch:=first|assumption|omega) only[aA,aC,facts,if_pos,Nat.reduceAdd,Vo.av, *]
  |with_reducible refine kV ?_
  |((with_reducible refine dL (fun _=>?_) (fun _=>?_))<;>try omega)
  |((with_reducible refine dI 149 ?_);refine PC.useY hF (aIr v hs) (rfl) fun v hv=>?_;subst hv))
  ·rw[Vo.lenR,if_neg h];rfl
  ·rename_i h1;exact absurd (by simpa using h1) h
def Ra.same (a b:Ra):Bool:=(a.num==b.num) && (a.den==b.den)
def Vo.filledR (v:Vo) (len:Ra):Int×Int:=if v.checkR.2=0 then(0,if v.lenR.2=0 then(if v.lenR.1.same len=true then 0 else 81) else v.lenR.2) else v.checkR
theorem aN2 (v:Vo) (len:Ra) (hs:v.small):PC Tryz.prog gl 77 [v.av,len.av] (fun w=>w= .tup [.int .i64 (v.filledR len).1,.int .i64 (v.filledR len).2]):=by
 (refine PC.introY 3 mix (fn:=Tryz.f77) Tryz.func77 rfl (names 77 _ Tryz.func77) fun F hF hro W=>?_;simp only[Tryz.ntmps77,Tryz.results77,aJ,Nat.reduceAdd,Nat.reduceSub])
 repeat' (first
  |simp -implicitDefEqProofs (disch:=first|assumption|omega) only[aA,aC,facts,if_pos,Nat.reduceAdd,Vo.av,Ra.av,pU, *]
  |((with_reducible refine dR (fun _=>?_) (fun _=>?_))<;>try omega)
  |((with_reducible refine dL (fun _=>?_) (fun _=>?_))<;>try omega)
  |((with_reducible refine sD (fun _=>?_) (fun _=>?_))<;>try omega)
  |((with_reducible refine dI 117 ?_);refine PC.useY hF (Ro v hs) (rfl) fun v hv=>?_;subst hv)
  |((with_reducible refine dI 118 ?_);refine PC.useY hF (aBs v hs) (rfl) fun v hv=>?_;subst hv))
 all_goals simp_all [Vo.filledR,Ra.same]
def xM (s:Sc) (k:Nat):Ba:=s.bars.getD k ⟨⟨0,0,[]⟩,⟨0,false⟩,⟨false,0,[],false,false,false,false,0⟩,[]⟩
def aEv (s:Sc) (i k:Nat):List Dy:=(partAt s i).dyns.getD k []
def aEc (l:List Dy) (len:Ra):Int:=if(wG (l.map fun t=>t.at_) len && !(l.any Dy.odd))=true then 0 else 120
def Og (c:List Vo) (n:Nat):Vo:=c.getD n ⟨[]⟩
def zS (c:List Vo) (d:List Dy) (len:Ra):Int×Int×Int:=
 if c.length=0\/c.length>4 then(0,0,82)
 else match qK c.length (fun n=>decide (((Og c n).filledR len).2≠0)) with
  |some n=>(n,(Og c n).filledR len)
  |none=>(0,0,aEc d len)
def oN (s:Sc) (i k:Nat):Int×Int×Int:=zS (cellAt s i k) (aEv s i k) (xM s k).meter.lenR.1
def yA (s:Sc) (i:Nat):(Int×Int×Int×Int)×Int:=
 match qK s.bars.length (fun k=>decide ((oN s i k).2.2≠0)) with
 |some k=>((i,k,(oN s i k).1,(oN s i k).2.1),(oN s i k).2.2)
 |none=>((0,0,0,0),0)
def pR (x:Int×Int×Int×Int):AV:=qV x.1 x.2.1 x.2.2.1 x.2.2.2
structure Pa.small (p:Pa):Prop where
 voices: ∀c∈p.cells,c.length<=1000000/\ ∀v∈c,v.small
 dyns: ∀d∈p.dyns,d.length<=1000000/\ ∀t∈d,t.at_.fits
theorem Eu {s:Sc} {i k:Nat} {x:Int×Int×Int} (hk:k<s.bars.length) (hx:oN s i k=x) (h:x.2.2≠0) (hQ: ∀j,j<k->(oN s i j).2.2=0):yA s i=((((i:Nat):Int),((k:Nat):Int),x.1,x.2.1),x.2.2):=by
 subst hx
 rw[yA,pY hk (by simpa using h) (fun j hj=>by simpa using hQ j hj)]
theorem aMc {c:List Vo} {d:List Dy} {len:Ra} {n:Nat} (h0: ¬(c.length=0\/c.length>4)) (hn:n<c.length) (h:(c[n].filledR len).2≠0) (hQ: ∀j,j<n->((Og c j).filledR len).2=0):zS c d len=(((n:Nat):Int),c[n].filledR len):=by
 have hv:Og c n=c[n]:=getD_at hn
 rw[zS,if_neg h0,pY hn (by rw[hv];simpa using h) (fun j hj=>by simpa using hQ j hj)]
 show((n:Int),(Og c n).filledR len)=_
 rw[hv]
theorem aEw {c:List Vo} {d:List Dy} {len:Ra} {n:Nat} (h0: ¬(c.length=0\/c.length>4)) (hn:n=c.length) (hQ: ∀j,j<n->((Og c j).filledR len).2=0):zS c d len=(0,0,aEc d len):=by
 rw[zS,if_neg h0,mZ (fun j hj=>by simpa using hQ j (by omega))]
theorem aJq {v:Vo} {len:Ra} (h:(v.filledR len).2=0):(v.filledR len).1=0:=by
 unfold Vo.filledR at h ⊢
 split
 ·rfl
 ·rename_i h1;rw[if_neg h1] at h;exact absurd h h1
theorem cells_ok (s:Sc) (i:Nat) (p:Pa) (hi:s.parts[i]?=some p) (hb:s.bars.length<=1000000) (hbars: ∀b∈s.bars,b.ok) (hc:p.cells.length=s.bars.length) (hd:p.dyns.length=s.bars.length) (hp:p.small)
  :PC Tryz.prog gl 33 [s.av,.int .i64 (i:Nat)] (fun w=>w= .tup [pR (yA s i).1,.int .i64 (yA s i).2]):=by
 have hlt:i<s.parts.length:=by
  rcases Nat.lt_or_ge i s.parts.length with h|h
  ·exact h
  ·rw[List.getElem?_eq_none h] at hi;cases hi
 have hpa:partAt s i=p:=by rw[partAt,List.getD_eq_getElem?_getD,hi];rfl
 (refine PC.introY 3 mix (fn:=Tryz.f33) Tryz.func33 rfl (names 33 _ Tryz.func33) fun F hF hro W=>?_;simp only[Tryz.ntmps33,Tryz.results33,aJ,Nat.reduceAdd,Nat.reduceSub])
 repeat' (simp -implicitDefEqProofs (disch:=first|assumption|omega) only[aA,aC,facts,if_pos,Nat.reduceAdd,Nat.reduceLeDiff,Sc.av,hi,Pa.av,aK7, *])
 refine kL (fD 92 [1,2,4,5,6,19,20]) [] 100 s.bars.length (fun k (_:Int×Int×Int×Int)=>⟨[.ud,.int .i64 (i:Nat),.ptr 0 0,.ud,.ptr 1 0,.int .i64 0,.ptr 8 0,.ud,.ud,.ud,.ud,.ud,.ud,.ud,.ud,.ud,.ud,.ud,.ud,.int .i64 (s.bars.length:Nat),.int .i64 (k:Nat),.ud,.ud,.ud,.ud,.ud,.ud,.ud,.ud,.ud,.ud,.ud,.ud,.ud,.ud,.ud,.ud,.ud,.ud,.ud,.ud,.ud,.ud,.ud,.ud,.ud,.ud,.ud,.ud,.ud,.ud,.ud,.ud,.ud,.ud,.ud,.ud,.ud,.ud,.ud,.ud,.ud,.ud,.ud,.ud,.ud,.ud,.ud,.ud,.ud,.ud,.ud,.ud,.ud,.ud,.ud,.ud,.ud,.ud,.ud,.ud,.ud,.ud,.ud,.ud,.ud,.ud,.ud,.ud,.ud,.ud,.ud],[]⟩) (fun _ x=>⟨[(8,.cells [.str p.name,.int .i64 p.clef,.int .i64 p.channel,.sl 1 (p.cells.map bU) .none,.sl 1 (p.dyns.map eP) .none]),(1,.cells [.int .i64 x.1,.int .i64 x.2.1,.int .i64 x.2.2.1,.int .i64 x.2.2.2]),(0,.cells [.str s.title,.sl 14 (s.bars.map Ba.av) .none,.sl 5 (s.parts.map Pa.av) .none])],100⟩) (fun k _=> ∀j,j<k->(oN s i j).2.2=0) (0,0,0,0) oO rfl rfl ?_
 rintro k ⟨x1,x2,x3,x4⟩ hk hQ
 by_cases hkl:k<s.bars.length
 ·have hbk:xM s k=s.bars[k]:=getD_at hkl
  have hck:cellAt s i k=p.cells[k]:=by rw[cellAt,hpa];exact getD_at (by omega)
  have hdk:aEv s i k=p.dyns[k]:=by rw[aEv,hpa];exact getD_at (by omega)
  have hbo:=hbars _ (List.getElem_mem hkl)
  have hce:oN s i k=zS p.cells[k] p.dyns[k] s.bars[k].meter.lenR.1:=by rw[oN,hbk,hck,hdk]
  have hvs:=hp.voices _ (List.getElem_mem (show k<p.cells.length by omega))
  have hds:=hp.dyns _ (List.getElem_mem (show k<p.dyns.length by omega))
  have e1:s.bars[k]?=some s.bars[k]:=List.getElem?_eq_getElem hkl
  have e2:p.cells[k]?=some p.cells[k]:=List.getElem?_eq_getElem (by omega)
  have e3:p.dyns[k]?=some p.dyns[k]:=List.getElem?_eq_getElem (by omega)
  generalize hbb:s.bars[k]=b at hce hbo e1
  generalize hcc:p.cells[k]=c at hce hvs e2
  generalize hdd:p.dyns[k]=d at hce hds e3
  have hvl:=hvs.1
  repeat' (first
  |simp -implicitDefEqProofs (disch:=first|assumption|omega) only[aA,aC,facts,if_pos,Nat.reduceAdd,Nat.reduceEqDiff,Nat.reduceLeDiff,Int.reduceBEq,e1,e2,Ba.av,bU,Pq,Lp,pU, *]
  |((with_reducible refine aF (fun _=>?_) (fun _=>?_))<;>try omega)
  |((with_reducible refine jW (fun _=>?_) (fun _=>?_))<;>try omega)
  |((with_reducible refine dI 70 ?_);refine PC.useY hF (Lc b.meter hbo.groups hbo.num hbo.den) (rfl) fun v hv=>?_;subst hv))
  ·rename_i h1 h2
   have h0:oN s i k=(0,0,82):=by rw[hce,zS,if_pos (.inl (by simpa using h2))]
   rw[Eu hkl h0 (by decide) hQ];rfl
  ·rename_i h1 h2 h3
   have h0:oN s i k=(0,0,82):=by rw[hce,zS,if_pos (.inr (by omega))]
   rw[Eu hkl h0 (by decide) hQ];rfl
  rename_i h1 h2 h3
  have h0: ¬(c.length=0\/c.length>4):=by rintro(h|h);{simp [h] at h2};{omega}
  refine kL (fD 92 [1,2,4,6,7,8,19,20,56,57,58]) [] 200 c.length (fun n (_:Int)=>⟨[.ud,.int .i64 (i:Nat),.ptr 0 0,.ud,.ptr 1 0,.ud,.ptr 8 0,.int .i64 (k:Nat),.ptr 116 0,.ud,.ud,.ud,.ud,.ud,.ud,.ud,.ud,.ud,.ud,.int .i64 (s.bars.length:Nat),.int .i64 (k:Nat),.ud,.ud,.ud,.ud,.ud,.ud,.ud,.ud,.ud,.ud,.ud,.ud,.ud,.ud,.ud,.ud,.ud,.ud,.ud,.ud,.ud,.ud,.ud,.ud,.ud,.ud,.ud,.ud,.ud,.ud,.ud,.ud,.ud,.ud,.ud,.sl 1 (c.map Vo.av) .none,.int .i64 (c.length:Nat),.int .i64 (n:Nat),.ud,.ud,.ud,.ud,.ud,.ud,.ud,.ud,.ud,.ud,.ud,.ud,.ud,.ud,.ud,.ud,.ud,.ud,.ud,.ud,.ud,.ud,.ud,.ud,.ud,.ud,.ud,.ud,.ud,.ud,.ud,.ud,.ud],[]⟩) (fun _ x=>⟨[(116,.cells [.int .i64 b.meter.lenR.1.num,.int .i64 b.meter.lenR.1.den]),(8,.cells [.str p.name,.int .i64 p.clef,.int .i64 p.channel,.sl 1 (p.cells.map bU) .none,.sl 1 (p.dyns.map eP) .none]),(1,.cells [.int .i64 (i:Nat),.int .i64 (k:Nat),.int .i64 x,.int .i64 0]),(0,.cells [.str s.title,.sl 14 (s.bars.map Ba.av) .none,.sl 5 (s.parts.map Pa.av) .none])],200⟩) (fun n _=> ∀j,j<n->((Og c j).filledR b.meter.lenR.1).2=0) 0 oO rfl rfl ?_
  rintro n x hn hQ2
  repeat' (first
  |simp -implicitDefEqProofs (disch:=first|assumption|omega) only[aA,aC,facts,if_pos,Nat.reduceAdd,Nat.reduceLeDiff,wrap_in,e3,List.getElem?_eq_getElem,Vo.av,eP,Pq,Lp, *]
  |((with_reducible refine jS 78 ?_);refine dK (aT3 d b.meter.lenR.1 hds.1 hds.2 Wv) (rfl) ?_)
  |((with_reducible refine aF (fun _=>?_) (fun _=>?_))<;>try omega)
  |((with_reducible refine dL (fun _=>?_) (fun _=>?_))<;>try omega)
  |((with_reducible refine fQ ?_);refine gZ _ rfl (by decide+kernel) ?_)
  |((with_reducible refine dI 77 ?_);refine PC.useY hF (aN2 c[n] b.meter.lenR.1 (hvs.2 _ (List.getElem_mem (by omega)))) (rfl) fun v hv=>?_;subst hv))
  ·rename_i q1 q2 q3
   simp only[bne_iff_ne,beq_iff_eq,ne_eq] at q2 q3
   exact absurd q3 q2
  ·rename_i q1 q2 q3
   have q2':(c[n].filledR b.meter.lenR.1).2≠0:=by simpa using q2
   rw[Eu hkl (hce.trans (aMc h0 (by omega) q2' hQ2)) q2' hQ];rfl
  ·rename_i q1 q2
   have q2':(c[n].filledR b.meter.lenR.1).2=0:=by simpa using q2
   have hn':n<c.length:=by omega
   refine fJ (n:Int) hn' (lX hQ2 (by rw[show Og c n=c[n] from getD_at hn'];exact q2')) ?_ rfl
   rw[aJq q2'];rfl
  ·rename_i q1 q2 q3
   simp only[bne_iff_ne,beq_iff_eq,ne_eq] at q2 q3
   exact absurd q3 q2
  ·rename_i q1 q2 q3
   have hx:=hce.trans (aEw h0 (show n=c.length by omega) hQ2)
   rw[Eu hkl hx (by simpa [aEc] using q2) hQ];rfl
  ·rename_i q1 q2
   have hx:=hce.trans (aEw h0 (show n=c.length by omega) hQ2)
   refine fJ ((i:Int),(k:Int),0,0) hkl (lX hQ ?_) ?_ ?_
   ·rw[hx];simpa [aEc] using q2
   ·rfl
   ·have hz:(if(wG (List.map (fun t=>t.at_) d) b.meter.lenR.1 && !d.any Dy.odd)=true then(0:Int) else 120)=0:=by simpa using q2
    rw[hz];rfl
 ·repeat' (first
  |simp -implicitDefEqProofs (disch:=first|assumption|omega) only[aA,aC,facts,if_pos,Nat.reduceAdd,Nat.reduceLeDiff,Pq, *]
  |((with_reducible refine aF (fun _=>?_) (fun _=>?_))<;>try omega))
  have hn:=mZ (n:=s.bars.length) (p:=fun k=>decide ((oN s i k).2.2≠0)) (fun j hj=>by simpa using hQ j (by omega))
  rw[yA,hn];rfl
end Go.Proofs.Pv
