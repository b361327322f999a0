/-
Layer 8's check of a score: voices checked.
Conditions: none but those that each statement names.
-/
import Derived.Test.YtbeclcideapopaaGreatDoorC08f
import Derived.Test.YtbeclcideapopaaGreatDoorPvBA
set_option linter.unusedVariables false
set_option linter.unusedSimpArgs false
set_option maxRecDepth 100000
set_option maxHeartbeats 16000000
namespace Go.Proofs.Pv
open Go Go.Proofs
theorem aN3 (e:Ev) (hs:e.small):PC Tryz.prog gl 146 [e.av] (fun v=>v= .bool (!e.right)):=by
 (refine PC.introY 1 mix (fn:=Tryz.f146) Tryz.func146 rfl (names 146 _ Tryz.func146) fun F hF hro W=>?_;simp only[Tryz.ntmps146,Tryz.results146,aI,Nat.reduceAdd,Nat.reduceSub])
 repeat' (first
  |simp -implicitDefEqProofs (disch:=first|assumption|omega) only[aA,aC,facts,if_pos,Nat.reduceAdd,Ev.av, *]
  |((with_reducible refine dI 68 ?_);refine PC.useY hF (uV e hs) (rfl) fun v hv=>?_;subst hv))
def qC (n:Nat) (p:Nat->Bool):Option Nat:=(List.range n).find? p
def Vo.tieBad (v:Vo) (k:Nat):Bool:=!(zJ (v.l.getD k qX) (v.l.getD (k+1) qX) true)
def Vo.checkR (v:Vo):Int×Int:=
 if v.l.length>64 then(64,70)
 else if nV (fun e=>!e.right) v.l>=0 then(nV (fun e=>!e.right) v.l,60)
 else match qC (v.l.length - 1) v.tieBad with
  |some k=>(k,71)
  |none=>(0,0)
def Vo.small (v:Vo):Prop:=v.l.length<=1000000/\ ∀e∈v.l,e.small
def gV:Nat->List Pi->List ME
 |_,[]=>[]
 |n,p::ps=>⟨p.av,.bool true,n⟩::gV (n+1) ps
theorem Ei: ∀(ps:List Pi) (n:Nat),(gV n ps).length=ps.length
 |[],_=>rfl
 |_::ps,n=>by simp [gV,Ei ps]
theorem Bq: ∀(ps:List Pi) (n j:Nat),(gV n ps)[j]?=(ps[j]?).map fun p=>⟨p.av,.bool true,n+j⟩
 |[],_,_=>by simp [gV]
 |p::ps,n,0=>by simp [gV]
 |p::ps,n,j+1=>by simp only[gV,List.getElem?_cons_succ,Bq ps];congr;funext p;congr 1;omega
theorem Vu: ∀(ps:List Pi) (n:Nat) (p:Pi),gV n (ps++[p])=gV n ps++[⟨p.av,.bool true,n+ps.length⟩]
 |[],n,p=>by simp [gV]
 |q::ps,n,p=>by simp only[List.cons_append,gV,Vu ps,List.length_cons];congr 4;omega
theorem same_eq {a b:Pi} (h:a.same b=true):a=b:=by
 simp only[Pi.same,Bool.and_eq_true,beq_iff_eq] at h
 obtain⟨a1,a2,a3⟩:=a
 obtain⟨b1,b2,b3⟩:=b
 simp at h
 obtain⟨rfl,rfl,rfl⟩:=h
 rfl
theorem aU7 (a b:Pi):tK Tryz.prog 9 84 a.av b.av=some (a.same b):=by
 rw[Pi.av,Pi.av,aRo];simp [Pi.same]
theorem aN4 (a:Pi):Hl Tryz.prog 9 84 (.agg [.int .i64 a.step,.int .i64 a.alter,.int .i64 a.octave])=true:=by kernel_rfl
theorem aQs (a:Pi):AV.litEq (.agg [.int .i64 a.step,.int .i64 a.alter,.int .i64 a.octave]) (.agg [.int .i64 a.step,.int .i64 a.alter,.int .i64 a.octave])=true:=by simp [AV.litEq,Xo,aBh]
theorem Pm (x:Pi): ∀(ps:List Pi) (n i:Nat),oJ Tryz.prog 84 (.agg [.int .i64 x.step,.int .i64 x.alter,.int .i64 x.octave]) (gV n ps) i=some ((ps.findIdx? fun y=>x.same y).map (· +i))
 |[],_,_=>rfl
 | p::ps,n,i=>by
  simp only[gV,oJ]
  have e:=aU7 x p
  rw[Pi.av] at e
  rw[e]
  cases h:x.same p with
  |true=>simp [List.findIdx?_cons,h]
  |false=>
   simp only[Pm x ps,List.findIdx?_cons,h,Bool.false_eq_true,if_false,Option.map_map]
   congr 2
   funext k
   simp;omega
theorem uK (f:Nat->Option Nat): ∀(ps:List Pi) (n:Nat),(gV n ps).map (ME.ren f)=gV n ps
 |[],_=>rfl
 |p::ps,n=>by
  simp only[gV,List.map_cons,uK f ps]
  rfl
def aFn (ps:List Pi) (p:Pi):List Pi:=if ps.any (fun y=>p.same y)=true then ps else ps++[p]
def jT (e:Ev):Nat->List Pi
 |0=>[]
 |i+1=>if e.ties.getD i false=true then aFn (jT e i) (e.pitches.getD i ⟨0,0,0⟩) else jT e i
theorem yN (e:Ev): ∀i,(jT e i).length<=i
 |0=>by simp [jT]
 | i+1=>by
  have:=yN e i
  simp only[jT,aFn]
  split
  ·split
   ·omega
   ·simp;omega
  ·omega
theorem aQt {ps:List Pi} {x:Pi} {j:Nat} (h:ps.findIdx? (fun y=>x.same y)=some j): ∃(hj:j<ps.length),ps[j]=x/\(gV 0 ps).set j ⟨.agg [.int .i64 x.step,.int .i64 x.alter,.int .i64 x.octave],.bool true,j⟩=gV 0 ps:=by
 rw[List.findIdx?_eq_some_iff_getElem] at h
 obtain⟨h1,h2,_⟩:=h
 have e:=same_eq h2
 refine⟨h1,e.symm,?_⟩
 apply List.ext_getElem?
 intro k
 rw[List.getElem?_set]
 split
 ·rename_i hk
  subst hk
  rw[Bq,List.getElem?_eq_getElem h1,<-e,if_pos (by rw[Ei];exact h1),Nat.zero_add]
  rfl
 ·rfl
theorem aG6 {ps:List Pi} {x:Pi}:(ps.any fun y=>x.same y)=(ps.findIdx? fun y=>x.same y).isSome:=by
 cases h:ps.findIdx? (fun y=>x.same y) with
 |none=>rw[List.findIdx?_eq_none_iff] at h;simp only[Option.isSome_none];rw[List.any_eq_false];intro y hy;simp [h y hy]
 |some j=>rw[List.findIdx?_eq_some_iff_getElem] at h;obtain⟨h1,h2,_⟩:=h;simp only[Option.isSome_some];exact List.any_eq_true.2 ⟨_,List.getElem_mem h1,h2⟩
def Ej (T:List Pi) (seen:List Nat):List ME:=(gV 0 T).filter fun e=>!seen.contains e.born
theorem Em {T:List Pi} {e:ME} (h:e∈gV 0 T): ∃(b:Nat) (hb:b<T.length),e=⟨T[b].av,.bool true,b⟩:=by
 obtain⟨b,hb,rfl⟩:=List.mem_iff_getElem.1 h
 rw[Ei] at hb
 have:=Bq T 0 b
 rw[List.getElem?_eq_getElem (by rw[Ei];exact hb),List.getElem?_eq_getElem hb] at this
 simp only[Option.map_some,Option.some.injEq,Nat.zero_add] at this
 exact⟨b,hb,this⟩
theorem aCw {T:List Pi} {b:Nat} (hb:b<T.length):(⟨T[b].av,.bool true,b⟩:ME)∈gV 0 T:=by
 have:=Bq T 0 b
 rw[List.getElem?_eq_getElem hb] at this
 simp only[Option.map_some,Nat.zero_add] at this
 exact List.mem_of_getElem? this
theorem aN5 {T:List Pi} {seen:List Nat} {e:ME} (h:e∈Ej T seen): ∃(b:Nat) (hb:b<T.length),e=⟨T[b].av,.bool true,b⟩/\b ∉ seen:=by
 unfold Ej at h
 rw[List.mem_filter] at h
 obtain⟨b,hb,rfl⟩:=Em h.1
 exact⟨b,hb,rfl,by simpa using h.2⟩
theorem aG7 {T:List Pi} {seen:List Nat} (h:(Ej T seen).isEmpty=true) {b:Nat} (hb:b<T.length):b∈seen:=by
 have h':Ej T seen=[]:=List.isEmpty_iff.1 h
 unfold Ej at h'
 rw[List.filter_eq_nil_iff] at h'
 have:=h' _ (aCw hb)
 simpa using this
theorem aN6 {P:Program} {G:Nat->Option (List AV)} {s:List AV} {g:Hp} {dst:Option Tmp} {ty:TypeId} {pos:String} {af:Array Edge} {gd:Option (Nat×Bool)} {t k m:Nat} {seen:List Nat} {T:List Pi}
  (hs:s.getD t .ud= .ptr k 0) (hk:g k=some (.mit m T.length seen T.length)) (hm:g m=some (.map (gV 0 T) T.length)):
  Ce P G s g ⟨dst,.next (.tmp t) false,ty,pos,af,gd⟩=some (.branch ((if(Ej T seen).isEmpty then [(.tup [.bool false],[])] else [])++(Ej T seen).map fun e=>(.tup [.bool true,e.key,e.val],[(k,some (.mit m T.length (seen++[e.born]) T.length))]))):=by
 simp only[Ce,ev,hs,hk,hm]
 have h1:(!seen.isEmpty && !(gV 0 T).isEmpty && (gV 0 T).all fun e=>decide (e.born>=T.length))=false:=by
  cases T with
  |nil=>simp [gV]
  |cons p ps=>simp [gV]
 have h2:((gV 0 T).filter fun e=>!seen.contains e.born).filter (fun e=>decide (e.born<T.length))=Ej T seen:=by
  rw[Ej,List.filter_eq_self]
  intro e he
  obtain⟨b,hb,rfl⟩:=Em (List.mem_filter.1 he).1
  simpa using hb
 have h3:((gV 0 T).filter fun e=>!seen.contains e.born).filter (fun e=>decide (e.born>=T.length))=[]:=by
  rw[List.filter_eq_nil_iff]
  intro e he
  obtain⟨b,hb,rfl⟩:=Em (List.mem_filter.1 he).1
  simpa using hb
 rw[h1,h2,h3]
 simp
theorem aKt {P:Program} {G:Nat->Option (List AV)} {s:List AV} {g:Hp} {dst:Option Tmp} {ty:TypeId} {pos:String} {af:Array Edge} {gd:Option (Nat×Bool)} {t k m:Nat} {seen:List Nat} {T:List Pi} {b:Nat} (hb:b<T.length)
  (hs:s.getD t .ud= .ptr k 0) (hk:g k=some (.mit m T.length (seen++[b]) T.length)) (hm:g m=some (.map (gV 0 T) T.length)):
  Ce P G s g ⟨dst,.entry (.tmp t),ty,pos,af,gd⟩=some (.val (.tup [T[b].av,.bool true]) []):=by
 have h1:(gV 0 T).find? (fun e=>e.born==b)=some ⟨T[b].av,.bool true,b⟩:=by
  cases h:(gV 0 T).find? (fun e=>e.born==b) with
  |none=>
   rw[List.find?_eq_none] at h
   have:=h _ (aCw hb)
   simp at this
  |some e=>
   have h2:=List.mem_of_find?_eq_some h
   have h3:=List.find?_some h
   obtain⟨c,hc,rfl⟩:=Em h2
   have:c=b:=by simpa using h3
   subst this;rfl
 simp only[Ce,ev,hs,hk,hm,List.getLast?_append,List.getLast?_singleton,Option.some_or,if_true,h1]
theorem aTg {F:Fence} {P:Program} {G:Nat->Option (List AV)} {W:World} {rng:Bool} {d:Nat} {gds:List (Option Tmp)} {K:Fr->St->Prop} {rest:List kH} {dd:Option Tmp} {fr:Fr} {st:St} {l:List (AV×List (Nat×Option aH))}
  (h: ∀x∈l,kX P G (OY F P G W rng d) gds K rest (fr.put dd x.1) (st.app x.2)):nI P G (OY F P G W rng d) gds K rest dd fr st (some true) (some (.branch l)):=by
 have:(OY F P G W rng d).both (l.map fun x=>kX P G (OY F P G W rng d) gds K rest (fr.put dd x.1) (st.app x.2)):=by
  have key: ∀X∈(l.map fun x=>kX P G (OY F P G W rng d) gds K rest (fr.put dd x.1) (st.app x.2)),X:=by
   intro X hX
   obtain⟨x,hx,rfl⟩:=List.mem_map.1 hX
   exact h x hx
  cases d with
  |zero=>cases rng<;>exact key
  |succ d=>exact key
 exact this
theorem aFo (e f:Ev): ∀i,Cj i (sO e f true)=(jT e i).all fun p=>f.pitches.any fun y=>p.same y
 |0=>rfl
 | i +1=>by
  have ih:=aFo e f i
  have h1:Cj (i+1) (sO e f true)=(Cj i (sO e f true) && sO e f true i):=by simp [Cj,List.range_succ]
  rw[h1,ih]
  simp only[jT,sO,Bool.true_and]
  cases ht:e.ties.getD i false with
  |false=>simp
  | true=>
   simp only[Bool.not_true,Bool.false_or,if_true,aFn]
   split
   ·rename_i h
    obtain⟨y,hy,hs⟩:=List.any_eq_true.1 h
    have e1:=same_eq hs
    cases h2:(jT e i).all fun p=>f.pitches.any fun y=>p.same y with
    |false=>rfl
    |true=>
     have:=List.all_eq_true.1 h2 y hy
     rw[<-e1] at this
     rw[this];rfl
   ·simp
theorem pK {n:Nat} {p:Nat->Bool} {i:Nat} (hi:i<n) (hp:p i=true) (hprev: ∀j,j<i->p j=false):qC n p=some i:=by
 unfold qC
 rw[List.find?_eq_some_iff_getElem]
 exact⟨hp,i,by simpa using hi,by simp,fun j hj=>by simp [hprev j hj]⟩
theorem mJ {n:Nat} {p:Nat->Bool} (hprev: ∀j,j<n->p j=false):qC n p=none:=by
 unfold qC
 rw[List.find?_eq_none]
 intro x hx
 simp [hprev x (List.mem_range.1 hx)]
theorem Tq: ∀(n:Nat) (l:List Nat),l.Nodup->(∀b∈l,b<n)->l.length<=n
 |0,l,_,h=>by
  cases l with
  |nil=>simp
  |cons a l=>exact absurd (h a (by simp)) (by omega)
 | n+1,l,hd,h=>by
  by_cases hn:n∈l
  ·have h1:=Tq n (l.erase n) (hd.erase n) (fun b hb=>by
    have hb':=(List.Nodup.mem_erase_iff hd).1 hb
    have:=h b hb'.2
    omega)
   rw[List.length_erase_of_mem hn] at h1
   omega
  ·have h1:=Tq n l hd (fun b hb=>by
    have:=h b hb
    have:b≠n:=fun e=>hn (e ▸ hb)
    omega)
   omega
theorem Qk (v:Vo) (hs:v.small):PC Tryz.prog gl 116 [v.av] (fun w=>w= .tup [.int .i64 v.checkR.1,.int .i64 v.checkR.2]):=by
  (refine PC.introY 3 mix (fn:=Tryz.f116) Tryz.func116 rfl (names 116 _ Tryz.func116) fun F hF hro W=>?_;simp only[Tryz.ntmps116,Tryz.results116,aI,Nat.reduceAdd,Nat.reduceSub])
  repeat' (first
    |simp -implicitDefEqProofs (disch:=first|assumption|omega) only[aA,aC,facts,if_pos,Nat.reduceAdd,Vo.av, *]
    |((with_reducible refine aF (fun _=>?_) (fun _=>?_))<;>try omega)
    |((with_reducible refine dI 145 ?_);refine PC.useY hF (aBe v.l _ [] (fun e=>!e.right) hs.1 rfl rfl (fun _=>rfl) (fun a ha=>aN3 a (hs.2 a ha))) (rfl) fun v hv=>?_;subst hv))
  · have h:v.l.length>64:=by omega
    simp [Vo.checkR,h]
  · rename_i h1 h2
    have h: ¬v.l.length>64:=by omega
    simp [Vo.checkR,h,h2]
  have h65:v.l.length<=64:=by omega
  refine kC (fD 47 [1,5]) [] 200 v.l.length (fun i (_:Unit)=>⟨[.ud,.ptr 0 0,.ud,.ud,.ud,.int .i64 (i:Nat),.ud,.ud,.ud,.ud,.ud,.ud,.ud,.ud,.ud,.ud,.ud,.ud,.ud,.ud,.ud,.ud,.ud,.ud,.ud,.ud,.ud,.ud,.ud,.ud,.ud,.ud,.ud,.ud,.ud,.ud,.ud,.ud,.ud,.ud,.ud,.ud,.ud,.ud,.ud,.ud,.ud],[]⟩) (fun _ _=>⟨[(0,.cells [.sl 9 (v.l.map Ev.av) .none])],200⟩) (fun i _=> ∀j,j<i->v.tieBad j=false) () oD rfl rfl ?_
  rintro i ⟨⟩ hi hQ
  repeat' (first
    |simp -implicitDefEqProofs (disch:=first|assumption|omega) only[aA,aC,facts,if_pos,Nat.reduceAdd,wrap_in,List.getElem?_eq_getElem,Ev.av, *]
    |((with_reducible refine aF (fun _=>?_) (fun _=>?_))<;>try omega))
  · rename_i hlt
    have hlt':i<v.l.length:=by omega
    have hsm:=hs.2 v.l[i] (List.getElem_mem hlt')
    have hnx:i+1<v.l.length:=by omega
    have hsn:=hs.2 v.l[i+1] (List.getElem_mem hnx)
    have hbad:v.tieBad i=!(zJ v.l[i] v.l[i+1] true):=by rw[Vo.tieBad,getD_at hlt',getD_at hnx]
    generalize he:v.l[i]=e at hsm hbad ⊢
    generalize hf:v.l[i+1]=f at hsn hbad
    obtain⟨hp1,hp2,hp3⟩:=hsm
    (refine Rt hF hro mix names 2 (fn:=Tryz.f147) Tryz.func147 rfl ?_;simp only[Tryz.ntmps147,Tryz.results147,aI,Nat.reduceAdd,Nat.reduceSub])
    repeat' (simp -implicitDefEqProofs (disch:=first|assumption|omega) only[aA,aC,facts,if_pos,Nat.reduceAdd,Nat.reduceLeDiff,nG, *])
    refine kC (fD 31 [1,3,8,9,10]) [] 300 e.pitches.length (fun j (_:Unit)=>⟨[.ud,.ptr 211 0,.ud,.map 213,.ud,.ud,.ud,.ud,.sl 3 (e.pitches.map Pi.av) .none,.int .i64 (e.pitches.length:Nat),.int .i64 (j:Nat),.ud,.ud,.ud,.ud,.ud,.ud,.ud,.ud,.ud,.ud,.ud,.ud,.ud,.ud,.ud,.ud,.ud,.ud,.ud,.ud],[]⟩) (fun j _=>⟨[(213,.map (gV 0 (jT e j)) (jT e j).length),(211,.cells e.cells),(0,.cells [.sl 9 (v.l.map Ev.av) .none])],300⟩) (fun j _=>(jT e j).length<=j) () (yN e 0) rfl rfl ?_
    rintro j ⟨⟩ hj -
    by_cases hjl:j<e.pitches.length
    · have hg:e.pitches.getD j ⟨0,0,0⟩=e.pitches[j]:=getD_at hjl
      have hany:=aG6 (ps:=jT e j) (x:=e.pitches[j])
      by_cases ht:j<e.ties.length
      · have hg2:e.ties.getD j false=e.ties[j]:=getD_at ht
        cases hfi:(jT e j).findIdx? (fun y=>e.pitches[j].same y) with
        | none=>
          have hT:e.ties[j]=true->jT e (j+1)=jT e j++[e.pitches[j]]:=fun h=>by simp only[jT,hg2,h,if_true,aFn,hg,hany,hfi,Option.isSome_none,Bool.false_eq_true,if_false]
          have hF:e.ties[j]=false->jT e (j+1)=jT e j:=fun h=>by simp only[jT,hg2,h,Bool.false_eq_true,if_false]
          repeat' (first
    |simp -implicitDefEqProofs (disch:=first|assumption|omega) only[aA,aC,facts,if_pos,Nat.reduceAdd,Nat.reduceLeDiff,wrap_in,nG,Ev.cells,List.getElem?_eq_getElem,Pi.av,aN4,Pm,Option.map_none, *]
    |((with_reducible refine aF (fun _=>?_) (fun _=>?_))<;>try omega)
    |((with_reducible refine dK (fun _=>?_) (fun _=>?_))<;>try omega)
    | ((with_reducible refine jI (fun _=>?_) (fun _=>?_))<;>try omega))
          · rename_i h1 h2 h3
            refine fH () hjl (yN e (j+1)) ?_ rfl
            have hx:gV 0 (jT e j)++[⟨.agg [.int .i64 e.pitches[j].step,.int .i64 e.pitches[j].alter,.int .i64 e.pitches[j].octave],.bool true,(jT e j).length⟩]=gV 0 (jT e (j+1)):=by rw[hT h3,Vu,Nat.zero_add];rfl
            have hl:(jT e j).length+1=(jT e (j+1)).length:=by rw[hT h3,List.length_append];rfl
            rw[hx,hl]
            refine(show _=some (St.mk ((213,aH.map (List.map (ME.ren (bI 219 [])) _) _)::_) 300) from rfl).trans ?_
            rw[uK];rfl
          · rename_i h1 h2 h3
            refine fH () hjl (yN e (j+1)) ?_ rfl
            simp only[hF h3]
            refine(show _=some (St.mk ((213,aH.map (List.map (ME.ren (bI 219 [])) _) _)::_) 300) from rfl).trans ?_
            rw[uK];rfl
        | some q=>
          obtain⟨hq1,hq2,hq3⟩:=aQt hfi
          have hq4:=Bq (jT e j) 0 q
          rw[List.getElem?_eq_getElem hq1,hq2] at hq4
          have hT:jT e (j+1)=jT e j:=by simp only[jT,aFn,hg,hany,hfi,Option.isSome_some,if_true,ite_self]
          repeat' (first
    |simp -implicitDefEqProofs (disch:=first|assumption|omega) only[aA,aC,facts,if_pos,Nat.reduceAdd,Nat.reduceLeDiff,wrap_in,nG,Ev.cells,List.getElem?_eq_getElem,Pi.av,aN4,Pm,aQs, *]
    |((with_reducible refine aF (fun _=>?_) (fun _=>?_))<;>try omega)
    |((with_reducible refine dK (fun _=>?_) (fun _=>?_))<;>try omega)
    | ((with_reducible refine jI (fun _=>?_) (fun _=>?_))<;>try omega))
          all_goals
            refine fH () hjl (yN e (j+1)) ?_ rfl
            simp only[hT]
            refine(show _=some (St.mk ((213,aH.map (List.map (ME.ren (bI 219 [])) _) _)::_) 300) from rfl).trans ?_
            rw[uK];rfl
      · have hg2:e.ties.getD j false=false:=by simp [List.getElem?_eq_none (Nat.le_of_not_lt ht)]
        have hT:jT e (j+1)=jT e j:=by simp only[jT,hg2,Bool.false_eq_true,if_false]
        repeat' (first
    |simp -implicitDefEqProofs (disch:=first|assumption|omega) only[aA,aC,facts,if_pos,Nat.reduceAdd,Nat.reduceLeDiff,wrap_in,nG,Ev.cells,List.getElem?_eq_getElem,Pi.av, *]
    |((with_reducible refine aF (fun _=>?_) (fun _=>?_))<;>try omega)
    | ((with_reducible refine jI (fun _=>?_) (fun _=>?_))<;>try omega))
        refine fH () hjl (yN e (j+1)) ?_ rfl
        simp only[hT]
        refine(show _=some (St.mk ((213,aH.map (List.map (ME.ren (bI 219 [])) _) _)::_) 300) from rfl).trans ?_
        rw[uK];rfl
    · have hje:j=e.pitches.length:=by omega
      subst hje
      repeat' (first
    |simp -implicitDefEqProofs (disch:=first|assumption|omega) only[aA,aC,facts,Nat.reduceAdd,nG,Ev.cells, *]
    | ((with_reducible refine aF (fun _=>?_) (fun _=>?_))<;>try omega))
      have hall:=aFo e f e.pitches.length
      generalize hTT:jT e e.pitches.length=T at hall ⊢
      have hle:zJ e f true=T.all fun p=>f.pitches.any fun y=>p.same y:=hall
      rw[hle] at hbad
      obtain⟨hf1,hf2,hf3⟩:=hsn
      refine kC (fD 47 [1,5,31]) [] 400 T.length (fun _ (_:List Nat)=>⟨[.ud,.ptr 0 0,.ud,.ud,.ud,.int .i64 (i:Nat),.ud,.ud,.ud,.ud,.ud,.ud,.ud,.ud,.ud,.ud,.ud,.ud,.ud,.ud,.ud,.ud,.ud,.ud,.ud,.ud,.ud,.ud,.ud,.ud,.ud,.ptr 303 0,.ud,.ud,.ud,.ud,.ud,.ud,.ud,.ud,.ud,.ud,.ud,.ud,.ud,.ud,.ud],[]⟩) (fun _ seen=>⟨[(303,.mit 213 T.length seen T.length),(213,.map (gV 0 T) T.length),(211,.cells e.cells),(0,.cells [.sl 9 (v.l.map Ev.av) .none])],400⟩)
        (fun n seen=>seen.length=n/\seen.Nodup/\ ∀b∈seen,∃h:b<T.length,(f.pitches.any fun y=>T[b].same y)=true) [] ⟨rfl,List.nodup_nil,fun b hb=>by cases hb⟩ ?_ rfl ?_
      · refine(show _=some (St.mk (_::(213,aH.map (List.map (ME.ren (bI 304 [])) _) _)::_) 400) from rfl).trans ?_
        rw[uK];rfl
      rintro n seen hn ⟨hl,hnd,hin⟩
      repeat' (first
    |simp -implicitDefEqProofs (disch:=first|assumption|omega) only[aA,aC,nG,zQ, *]
    | with_reducible refine kN ?_)
      unfold Zf
      rw[aN6 (T:=T) (seen:=seen) (k:=303) (m:=213) rfl rfl rfl]
      refine aTg fun x hx=>?_
      rcases List.mem_append.1 hx with hx|hx
      · split at hx
        · rename_i hemp
          obtain rfl:=List.mem_singleton.1 hx
          have hgood:(T.all fun p=>f.pitches.any fun y=>p.same y)=true:=by
            rw[List.all_eq_true]
            intro p hp
            obtain⟨b,hb,rfl⟩:=List.mem_iff_getElem.1 hp
            exact(hin b (aG7 hemp hb)).2
          repeat' (simp -implicitDefEqProofs (disch:=first|assumption|omega) only[aA,aC,Nat.reduceAdd,wrap_in, *])
          exact fH () (by omega) (lL hQ (by rw[hbad,hgood];rfl)) rfl rfl
        · cases hx
      · obtain⟨en,hen,rfl⟩:=List.mem_map.1 hx
        obtain⟨b,hb,rfl,hbs⟩:=aN5 hen
        repeat' (first
    |simp -implicitDefEqProofs (disch:=first|assumption|omega) only[aA,aC,Nat.reduceAdd,nG,zQ, *]
    |with_reducible refine kN ?_)
        unfold Zf
        rw[aKt (k:=303) (m:=213) hb rfl rfl rfl]
        repeat' (first
    |simp -implicitDefEqProofs (disch:=first|assumption|omega) only[aA,aC,facts,if_pos,Nat.reduceAdd,Nat.reduceLT,Nat.reduceLeDiff,wrap_in,Pi.av,List.getElem?_eq_getElem,Pn,Ev.av,hf, *]
    |((with_reducible refine jK 79 ?_);refine dL (Qi f.pitches T[b] hf1) (rfl) ?_)
    |((with_reducible refine dS (fun _=>?_) (fun _=>?_))<;>try omega)
    | ((with_reducible refine fP ?_);refine gU _ rfl (by decide+kernel) ?_))
        · rename_i hq
          have hnd':(seen++[b]).Nodup:=by
            rw[List.nodup_append]
            exact⟨hnd,by simp,fun u hu w hw=>by simp at hw;subst hw;intro h;subst h;exact hbs hu⟩
          have hlt2: ∀x∈seen++[b],x<T.length:=by
            intro x hx
            rcases List.mem_append.1 hx with hx|hx
            · exact(hin x hx).1
            · simp at hx;subst hx;exact hb
          have hlen:=Tq _ _ hnd' hlt2
          rw[List.length_append,List.length_singleton] at hlen
          refine fH (seen++[b]) (by omega) ⟨by rw[List.length_append,List.length_singleton,hl],hnd',?_⟩ ?_ rfl
          · intro x hx
            rcases List.mem_append.1 hx with hx|hx
            · exact hin x hx
            · simp at hx;subst hx;exact⟨hb,hq⟩
          · refine(show _=some (St.mk (_::(213,aH.map (List.map (ME.ren (bI 304 [])) _) _)::_) 400) from rfl).trans ?_
            rw[uK];rfl
        · rename_i hq
          have hwrong:(T.all fun p=>f.pitches.any fun y=>p.same y)=false:=zB hb hq
          rw[hwrong] at hbad
          have h1: ¬v.l.length>64:=by omega
          have h2: ¬nV (fun e=>!e.right) v.l>=0:=by assumption
          have h3:=pK (n:=v.l.length - 1) (p:=v.tieBad) (i:=i) (by omega) hbad hQ
          simp only[Vo.checkR,if_neg h1,if_neg h2,h3]
  · rename_i hlt
    have h1: ¬v.l.length>64:=by omega
    have h2: ¬nV (fun e=>!e.right) v.l>=0:=by assumption
    have h3:=mJ (n:=v.l.length - 1) (p:=v.tieBad) (fun j hj=>hQ j (by omega))
    simp only[Vo.checkR,if_neg h1,if_neg h2,h3]
def tkS2 (n1 k:Nat) (r:List (Nat×aH)) (x:Tk):St:=match x with
 | .tok _=>⟨(k,.tok)::r,n1⟩
 |_=>⟨r,n1⟩
def rE (l:List Ev):Nat->Ra
 |0=>⟨0,1⟩
 |k+1=>(Gf (rE l k) (l.getD k qX).lenR.1).1
def wC (l:List Ev) (k:Nat):Int:=(Gf (rE l k) (l.getD k qX).lenR.1).2
theorem aB2 (l:List Ev): ∀k,(rE l k).fits
 |0=>by simp [rE,Ra.fits,I64]
 |k+1=>aL1
theorem Vq {e:Ev}:e.lenR.1.fits:=by
 unfold Ev.lenR;split
 ·exact aLn
 ·simp [Ra.fits,I64]
def Vo.sumsR (v:Vo):List Ra×Int:=
 if v.checkR.2=0 then
  match qC v.l.length (fun k=>decide (wC v.l k≠0)) with
  |some k=>([],wC v.l k)
  |none=>((List.range (v.l.length+1)).map (rE v.l),0)
 else([],v.checkR.2)
theorem aB3 {v:Vo} {i:Nat} (h:v.checkR.2=0) (hi:i<v.l.length) (hb:wC v.l i≠0) (hQ: ∀j,j<i->wC v.l j=0):v.sumsR=([],wC v.l i):=by
 rw[Vo.sumsR,if_pos h,pK hi (by simpa using hb) (fun j hj=>by simpa using hQ j hj)]
theorem aEk {v:Vo} {i:Nat} (h:v.checkR.2=0) (hi:i=v.l.length) (hQ: ∀j,j<i->wC v.l j=0):v.sumsR=((List.range (i+1)).map (rE v.l),0):=by
 rw[Vo.sumsR,if_pos h,mJ (fun j hj=>by simpa using hQ j (by omega)),hi]
theorem aB4 {l:List Ev} {i:Nat} (hi:i<l.length):((List.range (i+1+1)).map fun k=>(rE l k).av)=((List.range (i+1)).map fun k=>(rE l k).av)++[(Gf (rE l i) l[i].lenR.1).1.av]:=by
 rw[List.range_succ (n:=i+1),List.map_append,<-getD_at hi (d:=qX)];rfl
theorem aHz (v:Vo) (hs:v.small):PC Tryz.prog gl 148 [v.av] (fun w=>w= .tup [.sl 2 (v.sumsR.1.map Ra.av) .none,.int .i64 v.sumsR.2]):=by
 (refine PC.introY 3 mix (fn:=Tryz.f148) Tryz.func148 rfl (names 148 _ Tryz.func148) fun F hF hro W=>?_;simp only[Tryz.ntmps148,Tryz.results148,aI,Nat.reduceAdd,Nat.reduceSub])
 repeat' (first
  |simp -implicitDefEqProofs (disch:=first|assumption|omega) only[aA,aC,facts,if_pos,Nat.reduceAdd,Nat.reduceLT,Nat.reduceLeDiff,Vo.av, *]
  |((with_reducible refine dK (fun _=>?_) (fun _=>?_))<;>try omega)
  |((with_reducible refine dI 116 ?_);refine PC.useY hF (Qk v hs) (rfl) fun v hv=>?_;subst hv))
 ·rename_i h1
  have h1': ¬v.checkR.2=0:=by simpa using h1
  rw[show v.sumsR=([],v.checkR.2) from if_neg h1'];rfl
 rename_i h1
 have h1':v.checkR.2=0:=by simpa using h1
 refine kC (fD 54 [6,24,25,26]) [(6,100)] 101 v.l.length (fun i (x:Tk)=>⟨[.ud,.ud,.ud,.ud,.ud,.ud,.sl 2 ((List.range (i+1)).map fun k=>(rE v.l k).av) x,.ud,.ud,.ud,.ud,.ud,.ud,.ud,.ud,.ud,.ud,.ud,.ud,.ud,.ud,.ud,.ud,.ud,.sl 9 (v.l.map Ev.av) .none,.int .i64 (v.l.length:Nat),.int .i64 (i:Nat),.ud,.ud,.ud,.ud,.ud,.ud,.ud,.ud,.ud,.ud,.ud,.ud,.ud,.ud,.ud,.ud,.ud,.ud,.ud,.ud,.ud,.ud,.ud,.ud,.ud,.ud,.ud],[]⟩) (fun _ x=>tkS2 101 100 [(0,.cells [.sl 9 (v.l.map Ev.av) .none])] x) (fun i x=>((x= .full/\i=0)\/x= .tok 100)/\ ∀j,j<i->wC v.l j=0) .full ⟨.inl ⟨rfl,rfl⟩,fun j h=>by omega⟩ ?_ ?_ ?_
 ·simp only[Nat.zero_add,List.range_one,List.map_cons,List.map_nil,rE];rfl
 ·rfl
 rintro i x hi hQ
 have hlen:((List.range (i+1)).map fun k=>(rE v.l k).av).length=i+1:=by simp
 have hget:((List.range (i+1)).map fun k=>(rE v.l k).av)[i]?=some (.agg [.int .i64 (rE v.l i).num,.int .i64 (rE v.l i).den]):=by simp [Ra.av]
 have hs1:=hs.1
 rcases hQ with⟨⟨rfl,rfl⟩|rfl,hQ⟩
 all_goals repeat' (first
  |simp -implicitDefEqProofs (disch:=first|assumption|omega) only[aA,aC,facts,if_pos,if_neg,Nat.reduceAdd,Nat.reduceEqDiff,Nat.reduceLT,Nat.reduceLeDiff,Nat.reduceMul,Int.reduceLE,Int.reduceAdd,tkS2,hlen,hget,wrap_in,List.getElem?_eq_getElem,Ev.av,pF, *]
  |((with_reducible refine w_at 159 ?_);refine iT (Vp (rE v.l i) v.l[i].lenR.1 (aB2 _ _) Vq) (rfl) ?_)
  |((with_reducible refine w_at 159 ?_);refine iT (Vp (rE v.l 0) v.l[0].lenR.1 (aB2 _ _) Vq) (rfl) ?_)
  |((with_reducible refine aF (fun _=>?_) (fun _=>?_))<;>try omega)
  |((with_reducible refine dK (fun _=>?_) (fun _=>?_))<;>try omega)
  |((with_reducible refine fP ?_);refine Xc (by decide+kernel) ?_)
  |((with_reducible refine dP ?_ ?_);· decide+kernel)
  |((with_reducible refine dI 158 ?_);refine PC.useY hF (Jr v.l[i] (hs.2 _ (List.getElem_mem (by omega)))) (rfl) fun v hv=>?_;subst hv)
  |((with_reducible refine dI 158 ?_);refine PC.useY hF (Jr v.l[0] (hs.2 _ (List.getElem_mem (by omega)))) (rfl) fun v hv=>?_;subst hv))
 ·rename_i h2 h3
  have h3':wC v.l 0≠0:=by rw[wC,getD_at (show 0<v.l.length by omega)];simpa using h3
  rw[aB3 h1' (show 0<v.l.length by omega) h3' hQ,wC,getD_at (show 0<v.l.length by omega)];rfl
 ·rename_i h2 h3
  have h3':wC v.l 0=0:=by rw[wC,getD_at (show 0<v.l.length by omega)];simpa using h3
  refine fH (.tok 100) (by omega) ⟨.inr rfl,lL hQ h3'⟩ ?_ ?_
  ·rfl
  ·simp only[aB4 (show 0<v.l.length by omega)];rfl
 ·rw[aEk h1' (i:=0) (show 0=v.l.length by omega) hQ];simp only[List.map_map];rfl
 ·rename_i h2 h3
  have h3':wC v.l i≠0:=by rw[wC,getD_at (show i<v.l.length by omega)];simpa using h3
  rw[aB3 h1' (show i<v.l.length by omega) h3' hQ,wC,getD_at (show i<v.l.length by omega)];rfl
 ·rename_i h2 h3
  have h3':wC v.l i=0:=by rw[wC,getD_at (show i<v.l.length by omega)];simpa using h3
  refine fH (.tok 100) (by omega) ⟨.inr rfl,lL hQ h3'⟩ ?_ ?_
  ·rfl
  ·simp only[aB4 (show i<v.l.length by omega)];rfl
 ·rw[aEk h1' (i:=i) (show i=v.l.length by omega) hQ];simp only[List.map_map];rfl
def Vo.lenR (v:Vo):Ra×Int:=if v.sumsR.2=0 then(rE v.l v.l.length,0) else(⟨0,0⟩,v.sumsR.2)
theorem aJ4 {v:Vo} (h:v.sumsR.2=0):v.sumsR.1=(List.range (v.l.length+1)).map (rE v.l):=by
 unfold Vo.sumsR at h ⊢
 split at h
 ·rename_i h1
  rw[if_pos h1]
  split at h
  ·rename_i k hk
   exfalso
   have:=List.find?_some hk
   simp at this
   exact this h
  ·rfl
 ·rename_i h1;exact absurd h h1
theorem aA3 (v:Vo) (hs:v.small):PC Tryz.prog gl 117 [v.av] (fun w=>w=pF v.lenR.1 v.lenR.2):=by
 (refine PC.introY 3 mix (fn:=Tryz.f117) Tryz.func117 rfl (names 117 _ Tryz.func117) fun F hF hro W=>?_;simp only[Tryz.ntmps117,Tryz.results117,aI,Nat.reduceAdd,Nat.reduceSub])
 by_cases h:v.sumsR.2=0
 ·have hl:=aJ4 h
  have hget:(List.range (v.l.length+1))[v.l.length]?=some v.l.length:=by simp
  have hlen:((List.range (v.l.length+1)).map fun k=>(rE v.l k).av).length=v.l.length+1:=by simp
  have hs1:=hs.1
  repeat' (first
  |simp -implicitDefEqProofs (disch:=first|assumption|omega) only[aA,aC,facts,if_pos,Nat.reduceAdd,Int.reduceBNe,Vo.av,hl,h,hget,List.map_map,Function.comp,Ra.av, *]
  |((with_reducible refine dI 148 ?_);refine PC.useY hF (aHz v hs) (rfl) fun v hv=>?_;subst hv))
  rw[Vo.lenR,if_pos h];rfl
 ·repeat' (first
  |simp -implicitDefEqProofs (disch:=first|assumption|omega) only[aA,aC,facts,if_pos,Nat.reduceAdd,Vo.av, *]
  |with_reducible refine kN ?_
  |((with_reducible refine dK (fun _=>?_) (fun _=>?_))<;>try omega)
  |((with_reducible refine dI 148 ?_);refine PC.useY hF (aHz v hs) (rfl) fun v hv=>?_;subst hv))
  ·rw[Vo.lenR,if_neg h];rfl
  ·rename_i h1;exact absurd (by simpa using h1) h
def Ra.same (a b:Ra):Bool:=(a.num==b.num) && (a.den==b.den)
def Vo.filledR (v:Vo) (len:Ra):Int×Int:=if v.checkR.2=0 then(0,if v.lenR.2=0 then(if v.lenR.1.same len=true then 0 else 81) else v.lenR.2) else v.checkR
theorem aNd (v:Vo) (len:Ra) (hs:v.small):PC Tryz.prog gl 76 [v.av,len.av] (fun w=>w= .tup [.int .i64 (v.filledR len).1,.int .i64 (v.filledR len).2]):=by
 (refine PC.introY 3 mix (fn:=Tryz.f76) Tryz.func76 rfl (names 76 _ Tryz.func76) fun F hF hro W=>?_;simp only[Tryz.ntmps76,Tryz.results76,aI,Nat.reduceAdd,Nat.reduceSub])
 repeat' (first
  |simp -implicitDefEqProofs (disch:=first|assumption|omega) only[aA,aC,facts,if_pos,Nat.reduceAdd,Vo.av,Ra.av,pF, *]
  |((with_reducible refine dS (fun _=>?_) (fun _=>?_))<;>try omega)
  |((with_reducible refine dK (fun _=>?_) (fun _=>?_))<;>try omega)
  |((with_reducible refine rF (fun _=>?_) (fun _=>?_))<;>try omega)
  |((with_reducible refine dI 116 ?_);refine PC.useY hF (Qk v hs) (rfl) fun v hv=>?_;subst hv)
  |((with_reducible refine dI 117 ?_);refine PC.useY hF (aA3 v hs) (rfl) fun v hv=>?_;subst hv))
 all_goals simp_all [Vo.filledR,Ra.same]
def wQ (s:Sc) (k:Nat):Ba:=s.bars.getD k ⟨⟨0,0,[]⟩,⟨0,false⟩,⟨false,0,[],false,false,false,false,0⟩,[]⟩
def aD5 (s:Sc) (i k:Nat):List Dy:=(partAt s i).dyns.getD k []
def aDm (l:List Dy) (len:Ra):Int:=if(vN (l.map fun t=>t.at_) len && !(l.any Dy.odd))=true then 0 else 120
def Nb (c:List Vo) (n:Nat):Vo:=c.getD n ⟨[]⟩
def yV (c:List Vo) (d:List Dy) (len:Ra):Int×Int×Int:=
 if c.length=0\/c.length>4 then(0,0,82)
 else match qC c.length (fun n=>decide (((Nb c n).filledR len).2≠0)) with
  |some n=>(n,(Nb c n).filledR len)
  |none=>(0,0,aDm d len)
def nZ (s:Sc) (i k:Nat):Int×Int×Int:=yV (cellAt s i k) (aD5 s i k) (wQ s k).meter.lenR.1
def xE (s:Sc) (i:Nat):(Int×Int×Int×Int)×Int:=
 match qC s.bars.length (fun k=>decide ((nZ s i k).2.2≠0)) with
 |some k=>((i,k,(nZ s i k).1,(nZ s i k).2.1),(nZ s i k).2.2)
 |none=>((0,0,0,0),0)
def oW (x:Int×Int×Int×Int):AV:=qK x.1 x.2.1 x.2.2.1 x.2.2.2
structure Pa.small (p:Pa):Prop where
 voices: ∀c∈p.cells,c.length<=1000000/\ ∀v∈c,v.small
 dyns: ∀d∈p.dyns,d.length<=1000000/\ ∀t∈d,t.at_.fits
theorem Dv {s:Sc} {i k:Nat} {x:Int×Int×Int} (hk:k<s.bars.length) (hx:nZ s i k=x) (h:x.2.2≠0) (hQ: ∀j,j<k->(nZ s i j).2.2=0):xE s i=((((i:Nat):Int),((k:Nat):Int),x.1,x.2.1),x.2.2):=by
 subst hx
 rw[xE,pK hk (by simpa using h) (fun j hj=>by simpa using hQ j hj)]
theorem aLm {c:List Vo} {d:List Dy} {len:Ra} {n:Nat} (h0: ¬(c.length=0\/c.length>4)) (hn:n<c.length) (h:(c[n].filledR len).2≠0) (hQ: ∀j,j<n->((Nb c j).filledR len).2=0):yV c d len=(((n:Nat):Int),c[n].filledR len):=by
 have hv:Nb c n=c[n]:=getD_at hn
 rw[yV,if_neg h0,pK hn (by rw[hv];simpa using h) (fun j hj=>by simpa using hQ j hj)]
 show((n:Int),(Nb c n).filledR len)=_
 rw[hv]
theorem aD6 {c:List Vo} {d:List Dy} {len:Ra} {n:Nat} (h0: ¬(c.length=0\/c.length>4)) (hn:n=c.length) (hQ: ∀j,j<n->((Nb c j).filledR len).2=0):yV c d len=(0,0,aDm d len):=by
 rw[yV,if_neg h0,mJ (fun j hj=>by simpa using hQ j (by omega))]
theorem aIz {v:Vo} {len:Ra} (h:(v.filledR len).2=0):(v.filledR len).1=0:=by
 unfold Vo.filledR at h ⊢
 split
 ·rfl
 ·rename_i h1;rw[if_neg h1] at h;exact absurd h h1
theorem cells_ok (s:Sc) (i:Nat) (p:Pa) (hi:s.parts[i]?=some p) (hb:s.bars.length<=1000000) (hbars: ∀b∈s.bars,b.ok) (hc:p.cells.length=s.bars.length) (hd:p.dyns.length=s.bars.length) (hp:p.small)
  :PC Tryz.prog gl 33 [s.av,.int .i64 (i:Nat)] (fun w=>w= .tup [oW (xE s i).1,.int .i64 (xE s i).2]):=by
 have hlt:i<s.parts.length:=by
  rcases Nat.lt_or_ge i s.parts.length with h|h
  ·exact h
  ·rw[List.getElem?_eq_none h] at hi;cases hi
 have hpa:partAt s i=p:=by rw[partAt,List.getD_eq_getElem?_getD,hi];rfl
 (refine PC.introY 3 mix (fn:=Tryz.f33) Tryz.func33 rfl (names 33 _ Tryz.func33) fun F hF hro W=>?_;simp only[Tryz.ntmps33,Tryz.results33,aI,Nat.reduceAdd,Nat.reduceSub])
 repeat' (simp -implicitDefEqProofs (disch:=first|assumption|omega) only[aA,aC,facts,if_pos,Nat.reduceAdd,Nat.reduceLeDiff,Sc.av,hi,Pa.av,aKe, *])
 refine kC (fD 92 [1,2,4,5,6,19,20]) [] 100 s.bars.length (fun k (_:Int×Int×Int×Int)=>⟨[.ud,.int .i64 (i:Nat),.ptr 0 0,.ud,.ptr 1 0,.int .i64 0,.ptr 8 0,.ud,.ud,.ud,.ud,.ud,.ud,.ud,.ud,.ud,.ud,.ud,.ud,.int .i64 (s.bars.length:Nat),.int .i64 (k:Nat),.ud,.ud,.ud,.ud,.ud,.ud,.ud,.ud,.ud,.ud,.ud,.ud,.ud,.ud,.ud,.ud,.ud,.ud,.ud,.ud,.ud,.ud,.ud,.ud,.ud,.ud,.ud,.ud,.ud,.ud,.ud,.ud,.ud,.ud,.ud,.ud,.ud,.ud,.ud,.ud,.ud,.ud,.ud,.ud,.ud,.ud,.ud,.ud,.ud,.ud,.ud,.ud,.ud,.ud,.ud,.ud,.ud,.ud,.ud,.ud,.ud,.ud,.ud,.ud,.ud,.ud,.ud,.ud,.ud,.ud,.ud],[]⟩) (fun _ x=>⟨[(8,.cells [.str p.name,.int .i64 p.clef,.int .i64 p.channel,.sl 1 (p.cells.map bU) .none,.sl 1 (p.dyns.map eP) .none]),(1,.cells [.int .i64 x.1,.int .i64 x.2.1,.int .i64 x.2.2.1,.int .i64 x.2.2.2]),(0,.cells [.str s.title,.sl 14 (s.bars.map Ba.av) .none,.sl 5 (s.parts.map Pa.av) .none])],100⟩) (fun k _=> ∀j,j<k->(nZ s i j).2.2=0) (0,0,0,0) oD rfl rfl ?_
 rintro k ⟨x1,x2,x3,x4⟩ hk hQ
 by_cases hkl:k<s.bars.length
 ·have hbk:wQ s k=s.bars[k]:=getD_at hkl
  have hck:cellAt s i k=p.cells[k]:=by rw[cellAt,hpa];exact getD_at (by omega)
  have hdk:aD5 s i k=p.dyns[k]:=by rw[aD5,hpa];exact getD_at (by omega)
  have hbo:=hbars _ (List.getElem_mem hkl)
  have hce:nZ s i k=yV p.cells[k] p.dyns[k] s.bars[k].meter.lenR.1:=by rw[nZ,hbk,hck,hdk]
  have hvs:=hp.voices _ (List.getElem_mem (show k<p.cells.length by omega))
  have hds:=hp.dyns _ (List.getElem_mem (show k<p.dyns.length by omega))
  have e1:s.bars[k]?=some s.bars[k]:=List.getElem?_eq_getElem hkl
  have e2:p.cells[k]?=some p.cells[k]:=List.getElem?_eq_getElem (by omega)
  have e3:p.dyns[k]?=some p.dyns[k]:=List.getElem?_eq_getElem (by omega)
  generalize hbb:s.bars[k]=b at hce hbo e1
  generalize hcc:p.cells[k]=c at hce hvs e2
  generalize hdd:p.dyns[k]=d at hce hds e3
  have hvl:=hvs.1
  repeat' (first
  |simp -implicitDefEqProofs (disch:=first|assumption|omega) only[aA,aC,facts,if_pos,Nat.reduceAdd,Nat.reduceEqDiff,Nat.reduceLeDiff,Int.reduceBEq,e1,e2,Ba.av,bU,Oi,Kq,pF, *]
  |((with_reducible refine aF (fun _=>?_) (fun _=>?_))<;>try omega)
  |((with_reducible refine jO (fun _=>?_) (fun _=>?_))<;>try omega)
  |((with_reducible refine dI 69 ?_);refine PC.useY hF (Js b.meter hbo.groups hbo.num hbo.den) (rfl) fun v hv=>?_;subst hv))
  ·rename_i h1 h2
   have h0:nZ s i k=(0,0,82):=by rw[hce,yV,if_pos (.inl (by simpa using h2))]
   rw[Dv hkl h0 (by decide) hQ];rfl
  ·rename_i h1 h2 h3
   have h0:nZ s i k=(0,0,82):=by rw[hce,yV,if_pos (.inr (by omega))]
   rw[Dv hkl h0 (by decide) hQ];rfl
  rename_i h1 h2 h3
  have h0: ¬(c.length=0\/c.length>4):=by rintro(h|h);{simp [h] at h2};{omega}
  refine kC (fD 92 [1,2,4,6,7,8,19,20,56,57,58]) [] 200 c.length (fun n (_:Int)=>⟨[.ud,.int .i64 (i:Nat),.ptr 0 0,.ud,.ptr 1 0,.ud,.ptr 8 0,.int .i64 (k:Nat),.ptr 116 0,.ud,.ud,.ud,.ud,.ud,.ud,.ud,.ud,.ud,.ud,.int .i64 (s.bars.length:Nat),.int .i64 (k:Nat),.ud,.ud,.ud,.ud,.ud,.ud,.ud,.ud,.ud,.ud,.ud,.ud,.ud,.ud,.ud,.ud,.ud,.ud,.ud,.ud,.ud,.ud,.ud,.ud,.ud,.ud,.ud,.ud,.ud,.ud,.ud,.ud,.ud,.ud,.ud,.sl 1 (c.map Vo.av) .none,.int .i64 (c.length:Nat),.int .i64 (n:Nat),.ud,.ud,.ud,.ud,.ud,.ud,.ud,.ud,.ud,.ud,.ud,.ud,.ud,.ud,.ud,.ud,.ud,.ud,.ud,.ud,.ud,.ud,.ud,.ud,.ud,.ud,.ud,.ud,.ud,.ud,.ud,.ud,.ud],[]⟩) (fun _ x=>⟨[(116,.cells [.int .i64 b.meter.lenR.1.num,.int .i64 b.meter.lenR.1.den]),(8,.cells [.str p.name,.int .i64 p.clef,.int .i64 p.channel,.sl 1 (p.cells.map bU) .none,.sl 1 (p.dyns.map eP) .none]),(1,.cells [.int .i64 (i:Nat),.int .i64 (k:Nat),.int .i64 x,.int .i64 0]),(0,.cells [.str s.title,.sl 14 (s.bars.map Ba.av) .none,.sl 5 (s.parts.map Pa.av) .none])],200⟩) (fun n _=> ∀j,j<n->((Nb c j).filledR b.meter.lenR.1).2=0) 0 oD rfl rfl ?_
  rintro n x hn hQ2
  repeat' (first
  |simp -implicitDefEqProofs (disch:=first|assumption|omega) only[aA,aC,facts,if_pos,Nat.reduceAdd,Nat.reduceLeDiff,wrap_in,e3,List.getElem?_eq_getElem,Vo.av,eP,Oi,Kq, *]
  |((with_reducible refine jK 77 ?_);refine dL (aS7 d b.meter.lenR.1 hds.1 hds.2 Vj) (rfl) ?_)
  |((with_reducible refine aF (fun _=>?_) (fun _=>?_))<;>try omega)
  |((with_reducible refine dK (fun _=>?_) (fun _=>?_))<;>try omega)
  |((with_reducible refine fP ?_);refine gU _ rfl (by decide+kernel) ?_)
  |((with_reducible refine dI 76 ?_);refine PC.useY hF (aNd c[n] b.meter.lenR.1 (hvs.2 _ (List.getElem_mem (by omega)))) (rfl) fun v hv=>?_;subst hv))
  ·rename_i q1 q2 q3
   simp only[bne_iff_ne,beq_iff_eq,ne_eq] at q2 q3
   exact absurd q3 q2
  ·rename_i q1 q2 q3
   have q2':(c[n].filledR b.meter.lenR.1).2≠0:=by simpa using q2
   rw[Dv hkl (hce.trans (aLm h0 (by omega) q2' hQ2)) q2' hQ];rfl
  ·rename_i q1 q2
   have q2':(c[n].filledR b.meter.lenR.1).2=0:=by simpa using q2
   have hn':n<c.length:=by omega
   refine fH (n:Int) hn' (lL hQ2 (by rw[show Nb c n=c[n] from getD_at hn'];exact q2')) ?_ rfl
   rw[aIz q2'];rfl
  ·rename_i q1 q2 q3
   simp only[bne_iff_ne,beq_iff_eq,ne_eq] at q2 q3
   exact absurd q3 q2
  ·rename_i q1 q2 q3
   have hx:=hce.trans (aD6 h0 (show n=c.length by omega) hQ2)
   rw[Dv hkl hx (by simpa [aDm] using q2) hQ];rfl
  ·rename_i q1 q2
   have hx:=hce.trans (aD6 h0 (show n=c.length by omega) hQ2)
   refine fH ((i:Int),(k:Int),0,0) hkl (lL hQ ?_) ?_ ?_
   ·rw[hx];simpa [aDm] using q2
   ·rfl
   ·have hz:(if(vN (List.map (fun t=>t.at_) d) b.meter.lenR.1 && !d.any Dy.odd)=true then(0:Int) else 120)=0:=by simpa using q2
    rw[hz];rfl
 ·repeat' (first
  |simp -implicitDefEqProofs (disch:=first|assumption|omega) only[aA,aC,facts,if_pos,Nat.reduceAdd,Nat.reduceLeDiff,Oi, *]
  |((with_reducible refine aF (fun _=>?_) (fun _=>?_))<;>try omega))
  have hn:=mJ (n:=s.bars.length) (p:=fun k=>decide ((nZ s i k).2.2≠0)) (fun j hj=>by simpa using hQ j (by omega))
  rw[xE,hn];rfl
end Go.Proofs.Pv
