/-
Layer 9's edits: copies of plain slices.
Conditions: none but those that each statement names.
-/
import Derived.Test.YtlcnbhiklpfpjaaGreatDoorF08
import Derived.Test.YtlcnbhiklpfpjaaGreatDoorD08
set_option linter.unusedVariables false
set_option linter.unusedSimpArgs false
set_option maxRecDepth 100000
set_option maxHeartbeats 16000000
namespace Go.Proofs.Pv
open Go Go.Proofs
theorem sN (l:List Int) (hl:l.length<=1000000):PC Tryz.prog gl 81 [.sl 1 (l.map (AV.int .i64)) .none] (fun v=>v= .sl 1 (l.map (AV.int .i64)) .none):=by
 cases l with
 |nil=>
  (refine PC.introZ 1 mix (fn:=Tryz.f81) Tryz.func81 rfl (names 81 _ Tryz.func81) fun F hF hro W=>?_;simp only[Tryz.ntmps81,Tryz.results81,aJ,Nat.reduceAdd,Nat.reduceSub])
  repeat' (first
  |simp -implicitDefEqProofs (disch:=first|assumption|omega) only[aA,aC,facts,Nat.reduceAdd,kS,kT,Ac,vF,oD,mD,Option.map_none, *]
  |with_reducible refine kV ?_)
  refine xR ?_ ?_
  all_goals repeat' (simp -implicitDefEqProofs (disch:=first|assumption|omega) only[aA,aC,facts,if_pos,Nat.reduceAdd,Nat.reduceLT,Nat.reduceMul, *])
 |cons x l=>
  simp only[List.length_cons] at hl
  (refine PC.introZ 1 mix (fn:=Tryz.f81) Tryz.func81 rfl (names 81 _ Tryz.func81) fun F hF hro W=>?_;simp only[Tryz.ntmps81,Tryz.results81,aJ,Nat.reduceAdd,Nat.reduceSub])
  repeat' (simp -implicitDefEqProofs (disch:=first|assumption|omega) only[aA,aC,facts,if_pos,Nat.reduceAdd,Nat.reduceLT,kS,kT,Um,mD,Option.map_none, *])
  all_goals trace_state
theorem Iq (l:List Bool) (hl:l.length<=1000000):PC Tryz.prog gl 89 [.sl 1 (l.map AV.bool) .none] (fun v=>v= .sl 1 (l.map AV.bool) .none):=by
 cases l with
 |nil=>
  (refine PC.introZ 1 mix (fn:=Tryz.f89) Tryz.func89 rfl (names 89 _ Tryz.func89) fun F hF hro W=>?_;simp only[Tryz.ntmps89,Tryz.results89,aJ,Nat.reduceAdd,Nat.reduceSub])
  repeat' (first
  |simp -implicitDefEqProofs (disch:=first|assumption|omega) only[aA,aC,facts,Nat.reduceAdd,kS,kT,Ac,vF,oD,mD,Option.map_none, *]
  |with_reducible refine kV ?_)
  refine xR ?_ ?_
  all_goals repeat' (simp -implicitDefEqProofs (disch:=first|assumption|omega) only[aA,aC,facts,if_pos,Nat.reduceAdd,Nat.reduceLT, *])
 |cons x l=>
  simp only[List.length_cons] at hl
  (refine PC.introZ 1 mix (fn:=Tryz.f89) Tryz.func89 rfl (names 89 _ Tryz.func89) fun F hF hro W=>?_;simp only[Tryz.ntmps89,Tryz.results89,aJ,Nat.reduceAdd,Nat.reduceSub])
  repeat' (simp -implicitDefEqProofs (disch:=first|assumption|omega) only[aA,aC,facts,if_pos,Nat.reduceAdd,Nat.reduceLT,Nat.reduceLeDiff,kS,kT,Um,mD,Option.map_none, *])
  all_goals trace_state
theorem aA2 (l:List Pi) (hl:l.length<=1000000):PC Tryz.prog gl 88 [.sl 3 (l.map Pi.av) .none] (fun v=>v= .sl 3 (l.map Pi.av) .none):=by
 cases l with
 |nil=>
  (refine PC.introZ 1 mix (fn:=Tryz.f88) Tryz.func88 rfl (names 88 _ Tryz.func88) fun F hF hro W=>?_;simp only[Tryz.ntmps88,Tryz.results88,aJ,Nat.reduceAdd,Nat.reduceSub])
  repeat' (first
  |simp -implicitDefEqProofs (disch:=first|assumption|omega) only[aA,aC,facts,Nat.reduceAdd,kS,kT,Ac,vF,oD,mD,Option.map_none, *]
  |with_reducible refine kV ?_)
  refine xR ?_ ?_
  all_goals repeat' (simp -implicitDefEqProofs (disch:=first|assumption|omega) only[aA,aC,facts,if_pos,Nat.reduceAdd,Nat.reduceLT,Nat.reduceMul, *])
 |cons x l=>
  simp only[List.length_cons] at hl
  (refine PC.introZ 1 mix (fn:=Tryz.f88) Tryz.func88 rfl (names 88 _ Tryz.func88) fun F hF hro W=>?_;simp only[Tryz.ntmps88,Tryz.results88,aJ,Nat.reduceAdd,Nat.reduceSub])
  repeat' (simp -implicitDefEqProofs (disch:=first|assumption|omega) only[aA,aC,facts,if_pos,Nat.reduceAdd,Nat.reduceLT,Nat.reduceMul,kS,kT,Um,mD,Option.map_none, *])
  all_goals trace_state
theorem Qx (l:List Dy) (hl:l.length<=1000000):PC Tryz.prog gl 43 [.sl 4 (l.map Dy.av) .none] (fun v=>v= .sl 4 (l.map Dy.av) .none):=by
 cases l with
 |nil=>
  (refine PC.introZ 1 mix (fn:=Tryz.f43) Tryz.func43 rfl (names 43 _ Tryz.func43) fun F hF hro W=>?_;simp only[Tryz.ntmps43,Tryz.results43,aJ,Nat.reduceAdd,Nat.reduceSub])
  repeat' (first
  |simp -implicitDefEqProofs (disch:=first|assumption|omega) only[aA,aC,facts,Nat.reduceAdd,kS,kT,Ac,vF,oD,mD,Option.map_none, *]
  |with_reducible refine kV ?_)
  refine xR ?_ ?_
  all_goals repeat' (simp -implicitDefEqProofs (disch:=first|assumption|omega) only[aA,aC,facts,if_pos,Nat.reduceAdd,Nat.reduceLT,Nat.reduceMul, *])
 |cons x l=>
  simp only[List.length_cons] at hl
  (refine PC.introZ 1 mix (fn:=Tryz.f43) Tryz.func43 rfl (names 43 _ Tryz.func43) fun F hF hro W=>?_;simp only[Tryz.ntmps43,Tryz.results43,aJ,Nat.reduceAdd,Nat.reduceSub])
  repeat' (simp -implicitDefEqProofs (disch:=first|assumption|omega) only[aA,aC,facts,if_pos,Nat.reduceAdd,Nat.reduceLT,Nat.reduceMul,kS,kT,Um,mD,Option.map_none, *])
  all_goals trace_state
theorem aA3 (l:List Te) (hl:l.length<=1000000):PC Tryz.prog gl 82 [.sl 4 (l.map Te.av) .none] (fun v=>v= .sl 4 (l.map Te.av) .none):=by
 cases l with
 |nil=>
  (refine PC.introZ 1 mix (fn:=Tryz.f82) Tryz.func82 rfl (names 82 _ Tryz.func82) fun F hF hro W=>?_;simp only[Tryz.ntmps82,Tryz.results82,aJ,Nat.reduceAdd,Nat.reduceSub])
  repeat' (first
  |simp -implicitDefEqProofs (disch:=first|assumption|omega) only[aA,aC,facts,Nat.reduceAdd,kS,kT,Ac,vF,oD,mD,Option.map_none, *]
  |with_reducible refine kV ?_)
  refine xR ?_ ?_
  all_goals repeat' (simp -implicitDefEqProofs (disch:=first|assumption|omega) only[aA,aC,facts,if_pos,Nat.reduceAdd,Nat.reduceLT,Nat.reduceMul, *])
 |cons x l=>
  simp only[List.length_cons] at hl
  (refine PC.introZ 1 mix (fn:=Tryz.f82) Tryz.func82 rfl (names 82 _ Tryz.func82) fun F hF hro W=>?_;simp only[Tryz.ntmps82,Tryz.results82,aJ,Nat.reduceAdd,Nat.reduceSub])
  repeat' (simp -implicitDefEqProofs (disch:=first|assumption|omega) only[aA,aC,facts,if_pos,Nat.reduceAdd,Nat.reduceLT,Nat.reduceMul,kS,kT,Um,mD,Option.map_none, *])
  all_goals trace_state
structure Ev.short (e:Ev):Prop where
 p:e.pitches.length<=1000000
 t:e.ties.length<=1000000
 m:e.marks.length<=1000000
theorem qM (l:List Ev) (hl:l.length<=1000000) (hs: ∀e∈l,e.short):Own Tryz.prog gl 52 [.sl 9 (l.map Ev.av) .none] (iR 0 9 l.length) (jI 0 (l.flatMap Ev.cells) l.length) 1:=by
  (refine Own.intro 2 mix names (fn:=Tryz.f52) Tryz.func52 rfl fun F hF hro W=>?_;simp only[Tryz.ntmps52,Tryz.results52,aJ,Nat.reduceAdd,Nat.reduceSub])
  repeat' (simp -implicitDefEqProofs (disch:=first|assumption|omega) only[aA,aC,facts,Nat.reduceAdd, *])
  refine jV (fD 30 [3,6,7,8]) 101 l.length (fun i (_:Unit)=>⟨[.ud,.ud,.ud,iR 100 9 i,.ud,.ud,.sl 9 (l.map Ev.av) .none,.int .i64 (l.length:Nat),.int .i64 (i:Nat),.ud,.ud,.ud,.ud,.ud,.ud,.ud,.ud,.ud,.ud,.ud,.ud,.ud,.ud,.ud,.ud,.ud,.ud,.ud,.ud,.ud],[]⟩) (fun i _=>⟨hC (jI 100 ((l.take i).flatMap Ev.cells) i),101⟩) (fun i _=>i<1000001) ⟨(),by omega,bI 5 [],gK 5 [],dH.of_fit rfl rfl rfl,aG.nil,rfl,rfl⟩ ?_
  rintro i x hi hi2
  rcases Nat.lt_or_ge i l.length with hlt|hge
  · have he:=hs l[i] (List.getElem_mem hlt)
    have hp:=he.p
    have ht:=he.t
    have hm:=he.m
    rcases i with _|i
    · simp only[iR,jI,hC,List.map_nil]
      repeat' (first
    |simp -implicitDefEqProofs (disch:=first|assumption|omega) only[aA,aC,facts,if_pos,if_neg,Nat.reduceAdd,Nat.reduceEqDiff,Nat.reduceLT,Nat.reduceLeDiff,Int.reduceLE,Int.reduceAdd,gI,cO,List.flatMap_cons,List.flatMap_nil,AV.cells,true_or,AV.one,wrap_in,List.getElem?_eq_getElem,Ev.av,aT, *]
    |((with_reducible refine w_at 88 ?_);refine iZ (aA2 _ hp) (rfl) ?_)
    |((with_reducible refine w_at 89 ?_);refine iZ (Iq _ ht) (rfl) ?_)
    |((with_reducible refine w_at 81 ?_);refine iZ (sN _ hm) (rfl) ?_)
    |((with_reducible refine aF (fun _=>?_) (fun _=>?_))<;>try omega)
    |((with_reducible refine aO ?_);refine jH (by decide+kernel) ?_)
    | ((with_reducible refine dP ?_ ?_);· decide+kernel))
      refine dN 0 () hlt (by omega) (by omega) (bI 5 [(124,100)]) (gK 5 [(124,100)]) ?_ ?_ rfl ?_
      · exact dH.of_fit rfl rfl rfl
      · refine aG.cons 124 rfl rfl ?_ aG.nil
        rw[jX hlt];rfl
      · rfl
    · have hfl:((l.take (i+1)).flatMap Ev.cells).length=(i+1)*9:=by rw[flat_length (k:=9) (fun _=>rfl),List.length_take];omega
      simp only[iR,jI,hC,List.map_cons,List.map_nil]
      repeat' (first
    |simp -implicitDefEqProofs (disch:=first|assumption|omega) only[aA,aC,facts,if_pos,if_neg,Nat.reduceAdd,Nat.reduceEqDiff,Nat.reduceLT,Nat.reduceLeDiff,gI,cO,List.flatMap_cons,List.flatMap_nil,AV.cells,AV.one,wrap_in,List.getElem?_eq_getElem,Ev.av,aT, *]
    |((with_reducible refine w_at 88 ?_);refine iZ (aA2 _ hp) (rfl) ?_)
    |((with_reducible refine w_at 89 ?_);refine iZ (Iq _ ht) (rfl) ?_)
    |((with_reducible refine w_at 81 ?_);refine iZ (sN _ hm) (rfl) ?_)
    |((with_reducible refine aF (fun _=>?_) (fun _=>?_))<;>try omega)
    |((with_reducible refine aO ?_);refine jH (by decide+kernel) ?_)
    | ((with_reducible refine dP ?_ ?_);· decide+kernel))
      refine dN (i+1) () hlt (by omega) (by omega) (bI 5 [(124,100)]) (gK 5 [(124,100)]) ?_ ?_ rfl ?_
      · exact dH.of_fit rfl rfl rfl
      · refine aG.cons 124 rfl rfl ?_ aG.nil
        rw[jX hlt,List.map_append,gB];rfl
      · rfl
  · have:i=l.length:=by omega
    subst this
    repeat' (first
    |simp -implicitDefEqProofs (disch:=first|assumption|omega) only[aA,aC,facts,Nat.reduceAdd,aT, *]
    |((with_reducible refine aF (fun _=>?_) (fun _=>?_))<;>try omega))
    rw[List.take_length]
    exact Nu fun f=>gB l
theorem Xi (l:List Ev) (hl:l.length<=1000000) (hs: ∀e∈l,e.short):PC Tryz.prog gl 52 [.sl 9 (l.map Ev.av) .none] (fun v=>v= .sl 9 (l.map Ev.av) .none):=by
 refine PC.of_own (qM l hl hs) 3 ?_
 cases l with
 |nil=>rfl
 |cons x l=>
  refine(aUc (cs:=(x::l).flatMap Ev.cells) rfl (by decide) (aJf evNow _) (by rw[flat_length (k:=9) (fun _=>rfl)];simp) (kZ (fun _=>rfl) _)).trans ?_
  have:=lI (c:=Ev.cells) (k:=9) (fun _=>rfl) (x::l)
  simp only[List.length_cons] at this
  rw[show(!(Nat.beq 9 1))=true from rfl,this]
  rfl
theorem nC {n k a b c:Nat}:AV.ren (up n) (.msl k a b c)= .msl (k+n) a b c:=rfl
theorem fH {n:Nat}:hup n []=[]:=rfl
theorem eX {n k:Nat} {cs:List AV} {r:List (Nat×List AV)}:hup n ((k,cs)::r)=(k+n,cs.map (AV.ren (up n)))::hup n r:=rfl
theorem aN:hC []=[]:=rfl
theorem aK {k:Nat} {cs:List AV} {r:List (Nat×List AV)}:hC ((k,cs)::r)=(k,.cells cs)::hC r:=rfl
theorem dY {k s n:Nat}:iR k s (n+1)= .msl k 0 (n+1) s:=rfl
theorem aX {k s:Nat}:iR k s 0= .sl s [] .mut:=rfl
theorem bJ {k n:Nat} {cs:List AV}:jI k cs (n+1)=[(k,cs)]:=rfl
theorem aY {k:Nat} {cs:List AV}:jI k cs 0=[]:=rfl
def aZ (c:Nat->List AV) (i:Nat):List AV:=(List.range i).flatMap c
theorem fE {c:Nat->List AV} {i:Nat}:aZ c (i+1)=aZ c i++c i:=by
 unfold aZ
 rw[List.range_succ,List.flatMap_append];simp
theorem wF {c:Nat->List AV}:aZ c 0=[]:=rfl
theorem iG {c:Nat->List AV} {k:Nat} (h: ∀j,(c j).length=k) (i:Nat):(aZ c i).length=i*k:=by
 unfold aZ;rw[flat_length h];simp
theorem dO {f:Nat->Option Nat} {c c':Nat->List AV} (i:Nat) (h: ∀j,j<i->(c j).map (AV.ren f)=c' j):(aZ c i).map (AV.ren f)=aZ c' i:=by
 induction i with
 |zero=>rfl
 |succ i ih=>rw[fE,fE,List.map_append,ih fun j hj=>h j (by omega),h i (by omega)]
def jU (q:Nat) (vs:List Vo) (j0 j:Nat):List AV:=[if j=j0 then .msl q 0 (vs.getD j ⟨[]⟩).l.length 9 else .sl 9 ((vs.getD j ⟨[]⟩).l.map Ev.av) .none]
theorem oQ {f:Nat->Option Nat} {q q':Nat} (h:f q=some q') (vs:List Vo) (j0 j:Nat):(jU q vs j0 j).map (AV.ren f)=jU q' vs j0 j:=by
 by_cases hj:j=j0
 ·simp [jU,hj,AV.ren,h]
 ·simp [jU,hj,AV.ren]
theorem aCz {f:Nat->Option Nat} {q q':Nat} (vs:List Vo) (j0 j:Nat) (h:j≠j0):(jU q vs j0 j).map (AV.ren f)=jU q' vs j0 j:=by
 simp [jU,h,AV.ren]
def Lr (q:Nat) (vs:List Vo) (j0 i:Nat):List (Nat×List AV):=if j0<i then [(q,(vs.getD j0 ⟨[]⟩).l.flatMap Ev.cells)] else []
theorem Tf (vs:List Vo) (hl:vs.length<=1000000) (hs: ∀v∈vs,v.l.length<=1000000/\ ∀e∈v.l,e.short) (j0:Nat) (hj:j0<vs.length) (hne: ∀v∈vs,0<v.l.length):
    Own Tryz.prog gl 41 [.sl 1 (vs.map Vo.av) .none] (.msl 0 0 vs.length 1) [(0,aZ (jU 1 vs j0) vs.length),(1,(vs.getD j0 ⟨[]⟩).l.flatMap Ev.cells)] 2:=by
  (refine Own.intro 2 mix names (fn:=Tryz.f41) Tryz.func41 rfl fun F hF hro W=>?_;simp only[Tryz.ntmps41,Tryz.results41,aJ,Nat.reduceAdd,Nat.reduceSub])
  repeat' (simp -implicitDefEqProofs (disch:=first|assumption|omega) only[aA,aC,facts,Nat.reduceAdd, *])
  refine jV (fD 21 [3,6,7,8]) 102 vs.length (fun i (_:Unit)=>⟨[.ud,.ud,.ud,iR 100 1 i,.ud,.ud,.sl 1 (vs.map Vo.av) .none,.int .i64 (vs.length:Nat),.int .i64 (i:Nat),.ud,.ud,.ud,.ud,.ud,.ud,.ud,.ud,.ud,.ud,.ud,.ud],[]⟩) (fun i _=>⟨hC (jI 100 (aZ (jU 101 vs j0) i) i++Lr 101 vs j0 i),102⟩) (fun i _=>i<1000001) ⟨(),by omega,bI 5 [],gK 5 [],dH.of_fit rfl rfl rfl,by simp only[Lr,if_neg (Nat.not_lt_zero _)];exact aG.nil,rfl,rfl⟩ ?_
  rintro i x hi hi2
  rcases Nat.lt_or_ge i vs.length with hlt|hge
  · have hv:=hs vs[i] (List.getElem_mem hlt)
    have hn0:=hne vs[i] (List.getElem_mem hlt)
    have hget:vs.getD i ⟨[]⟩=vs[i]:=by rw[List.getD_eq_getElem?_getD,List.getElem?_eq_getElem hlt];rfl
    obtain⟨n,hn⟩: ∃n,vs[i].l.length=n+1:=⟨vs[i].l.length - 1,by omega⟩
    have hpc:=Xi vs[i].l hv.1 hv.2
    have hown:=qM vs[i].l hv.1 hv.2
    rw[hn] at hown
    simp only[dY,bJ] at hown
    by_cases hij:i=j0
    · subst hij
      have hnlt: ¬i<i:=Nat.lt_irrefl i
      rcases i with _|i
      · simp only[aX,aY,Lr,if_neg hnlt,List.append_nil,aN]
        repeat' (first
    |simp -implicitDefEqProofs (disch:=first|assumption|omega) only[aA,aC,facts,if_pos,Nat.reduceAdd,Nat.reduceLT,Nat.reduceLeDiff,Int.reduceLE,Int.reduceAdd,gI,cO,List.flatMap_cons,List.flatMap_nil,AV.cells,true_or,AV.one,rO,xF,nC,eX,fH,aK,aN,gB,wrap_in,List.getElem?_eq_getElem,Vo.av,aT, *]
    |((with_reducible refine aF (fun _=>?_) (fun _=>?_))<;>try omega)
    | ((with_reducible refine aS 52 ?_);refine vZ hF hro hown (rfl) ?_))
        refine dN 0 () hlt (by omega) (by omega) (bI 5 [(113,100),(110,101)]) (gK 5 [(113,100),(110,101)]) (dH.of_fit rfl rfl rfl) ?_ rfl rfl
        simp only[Lr,if_pos (show 0<0+1 by omega),bJ,List.cons_append,List.nil_append,aK,aN]
        refine aG.cons 113 rfl rfl ?_ (aG.cons 110 rfl rfl (gB _) aG.nil)
        rw[fE,wF];simp [jU,hlt,hn,AV.ren,bI]
      · have hfl:(aZ (jU 101 vs (i+1)) (i+1)).length=(i+1):=by rw[iG (k:=1) (fun _=>rfl)];omega
        simp only[dY,bJ,Lr,if_neg hnlt,List.append_nil,aN,aK]
        repeat' (first
    |simp -implicitDefEqProofs (disch:=first|assumption|omega) only[aA,aC,facts,if_pos,if_neg,Nat.reduceAdd,Nat.reduceEqDiff,Nat.reduceLT,Nat.reduceLeDiff,gI,cO,List.flatMap_cons,List.flatMap_nil,AV.cells,AV.one,rO,xF,nC,eX,fH,aK,aN,gB,wrap_in,List.getElem?_eq_getElem,Vo.av,aT, *]
    |((with_reducible refine aF (fun _=>?_) (fun _=>?_))<;>try omega)
    | ((with_reducible refine aS 52 ?_);refine vZ hF hro hown (rfl) ?_))
        refine dN (i+1) () hlt (by omega) (by omega) (bI 5 [(113,100),(110,101)]) (gK 5 [(113,100),(110,101)]) (dH.of_fit rfl rfl rfl) ?_ rfl rfl
        simp only[Lr,if_pos (show i+1<i+1+1 by omega),bJ,List.cons_append,List.nil_append,aK,aN]
        refine aG.cons 113 rfl rfl ?_ (aG.cons 110 rfl rfl (gB _) aG.nil)
        rw[fE (i:=i+1),List.map_append,dO (c':=jU 101 vs (i+1)) (i+1) fun j hj=>aCz vs (i+1) j (by omega)];simp [jU,hlt,hn,AV.ren,bI]
    · rcases i with _|i
      · simp only[aX,aY,Lr,if_neg (Nat.not_lt_zero _),List.append_nil,aN]
        repeat' (first
    |simp -implicitDefEqProofs (disch:=first|assumption|omega) only[aA,aC,facts,if_pos,Nat.reduceAdd,Nat.reduceLT,Nat.reduceLeDiff,Int.reduceLE,Int.reduceAdd,gI,cO,List.flatMap_cons,List.flatMap_nil,AV.cells,true_or,AV.one,wrap_in,List.getElem?_eq_getElem,Vo.av,aT, *]
    |((with_reducible refine aF (fun _=>?_) (fun _=>?_))<;>try omega)
    | ((with_reducible refine aS 52 ?_);refine PC.useZ hF hpc (rfl) fun v hv=>?_;subst hv))
        refine dN 0 () hlt (by omega) (by omega) (bI 5 [(112,100)]) (gK 5 [(112,100)]) (dH.of_fit rfl rfl rfl) ?_ rfl rfl
        simp only[Lr,if_neg (show¬j0<0+1 by omega),bJ,List.append_nil,aK,aN]
        refine aG.cons 112 rfl rfl ?_ aG.nil
        rw[fE,wF];simp [jU,hij,hlt,AV.ren]
      · have hfl:(aZ (jU 101 vs j0) (i+1)).length=(i+1):=by rw[iG (k:=1) (fun _=>rfl)];omega
        by_cases hjl:j0<i+1
        · simp only[dY,bJ,Lr,if_pos hjl,List.cons_append,List.nil_append,aN,aK]
          repeat' (first
    |simp -implicitDefEqProofs (disch:=first|assumption|omega) only[aA,aC,facts,if_pos,if_neg,Nat.reduceAdd,Nat.reduceEqDiff,Nat.reduceLT,Nat.reduceLeDiff,gI,cO,List.flatMap_cons,List.flatMap_nil,AV.cells,AV.one,wrap_in,List.getElem?_eq_getElem,Vo.av,aT, *]
    |((with_reducible refine aF (fun _=>?_) (fun _=>?_))<;>try omega)
    | ((with_reducible refine aS 52 ?_);refine PC.useZ hF hpc (rfl) fun v hv=>?_;subst hv))
          refine dN (i+1) () hlt (by omega) (by omega) (bI 5 [(112,100),(101,101)]) (gK 5 [(112,100),(101,101)]) (dH.of_fit rfl rfl rfl) ?_ rfl rfl
          simp only[Lr,if_pos (show j0<i+1+1 by omega),bJ,List.cons_append,List.nil_append,aK,aN]
          refine aG.cons 112 rfl rfl ?_ (aG.cons 101 rfl rfl (gB _) aG.nil)
          rw[fE (i:=i+1),List.map_append,dO (c':=jU 101 vs j0) (i+1) fun j hj=>oQ (f:=bI 5 [(112,100),(101,101)]) (q:=101) (q':=101) rfl vs j0 j];simp [jU,hij,hlt,AV.ren]
        · simp only[dY,bJ,Lr,if_neg hjl,List.append_nil,aN,aK]
          repeat' (first
    |simp -implicitDefEqProofs (disch:=first|assumption|omega) only[aA,aC,facts,if_pos,Nat.reduceAdd,Nat.reduceEqDiff,Nat.reduceLT,Nat.reduceLeDiff,gI,cO,List.flatMap_cons,List.flatMap_nil,AV.cells,AV.one,wrap_in,List.getElem?_eq_getElem,Vo.av,aT, *]
    |((with_reducible refine aF (fun _=>?_) (fun _=>?_))<;>try omega)
    |((with_reducible refine aS 52 ?_);refine PC.useZ hF hpc (rfl) fun v hv=>?_;subst hv))
          refine dN (i+1) () hlt (by omega) (by omega) (bI 5 [(112,100)]) (gK 5 [(112,100)]) (dH.of_fit rfl rfl rfl) ?_ rfl rfl
          simp only[Lr,if_neg (show¬j0<i+1+1 by omega),bJ,List.append_nil,aK,aN]
          refine aG.cons 112 rfl rfl ?_ aG.nil
          rw[fE (i:=i+1),List.map_append,dO (c':=jU 101 vs j0) (i+1) fun j hj=>aCz vs j0 j (by omega)];simp [jU,hij,hlt,AV.ren]
  · have:i=vs.length:=by omega
    subst this
    obtain⟨n,hn⟩: ∃n,vs.length=n+1:=⟨vs.length - 1,by omega⟩
    repeat' (first
    |simp -implicitDefEqProofs (disch:=first|assumption|omega) only[aA,aC,facts,Nat.reduceAdd,aT, *]
    |((with_reducible refine aF (fun _=>?_) (fun _=>?_))<;>try omega))
    refine vI.of [(100,0),(101,1)] rfl ?_ rfl
    simp only[Lr,if_pos (show j0<n+1 by omega),bJ,List.cons_append,List.nil_append,aK,aN]
    refine aG.cons 100 rfl rfl (dO (n+1) fun j hj=>oQ (f:=bI 0 [(100,0),(101,1)]) (q:=101) (q':=1) rfl vs j0 j) (aG.cons 101 rfl rfl (gB _) aG.nil)
theorem Pe {α:Type} [Inhabited α] {l:List α} {c:Nat->List AV} {c':α->List AV} (h: ∀j (hj:j<l.length),c j=c' l[j]):aZ c l.length=l.flatMap c':=by
 have: ∀i,i<=l.length->aZ c i=(l.take i).flatMap c':=by
  intro i hi
  induction i with
  |zero=>rfl
  |succ i ih=>rw[fE,ih (by omega),jX (show i<l.length by omega),h i (by omega)]
 rw[this _ (Nat.le_refl _),List.take_length]
theorem Bz {f:AV->AV} {c c':Nat->List AV} (i:Nat) (h: ∀j,j<i->(c j).map f=c' j):(aZ c i).map f=aZ c' i:=by
 induction i with
 |zero=>rfl
 |succ i ih=>rw[fE,fE,List.map_append,ih fun j hj=>h j (by omega),h i (by omega)]
instance:Inhabited Vo:=⟨⟨[]⟩⟩
theorem aR7 {sty:Nat->Bool} {hp:Hp} {d key q:Nat} (vs:List Vo) (j0:Nat) (hj:j0<vs.length) (hs:sty key=true) (hk:hp key=some (.cells (aZ (jU q vs j0) vs.length))) (hq:hp q=some (.cells ((vs.getD j0 ⟨[]⟩).l.flatMap Ev.cells))):
  AV.nowS sty hp (d+2) (.msl key 0 vs.length 1)= .sl 1 (vs.map Vo.av) .none:=by
 have hrow:(aZ (jU q vs j0) vs.length).map (AV.nowS sty hp (d+1))=vs.flatMap fun v=>[.sl 9 (v.l.map Ev.av) .none]:=by
  rw[Bz (c':=fun j=>[.sl 9 ((vs.getD j ⟨[]⟩).l.map Ev.av) .none]) _ fun j hj'=>?_]
  ·exact Pe fun j hj'=>by rw[List.getD_eq_getElem?_getD,List.getElem?_eq_getElem hj'];rfl
  ·by_cases e:j=j0
   ·subst e
    simp only[jU,if_true,List.map_cons,List.map_nil]
    rw[aJg _ rfl hq]
   ·simp only[jU,if_neg e,List.map_cons,List.map_nil]
    rfl
 refine(pJ hk (by decide) hrow (by rw[iG (k:=1) (fun _=>rfl)];omega) (kZ (fun _=>rfl) vs)).trans ?_
 rw[hs,Bool.or_true,lI (c:=fun v:Vo=>[AV.sl 9 (v.l.map Ev.av) .none]) (k:=1) (fun _=>rfl) vs]
 rfl
theorem aHk (vs:List Vo) (hl:vs.length<=1000000) (hs: ∀v∈vs,v.l.length<=1000000/\ ∀e∈v.l,e.short) (h0:0<vs.length) (hne: ∀v∈vs,0<v.l.length):
  PC Tryz.prog gl 41 [.sl 1 (vs.map Vo.av) .none] (fun v=>v= .sl 1 (vs.map Vo.av) .none):=
 PC.of_ownS (Tf vs hl hs 0 h0 hne) 2 (aR7 (sty:=fun _=>true) (d:=0) vs 0 h0 rfl rfl rfl)
theorem vT {n q:Nat} {vs:List Vo} {j0 i:Nat}:(aZ (jU q vs j0) i).map (AV.ren (up n))=aZ (jU (q+n) vs j0) i:=dO i fun j _=>oQ (f:=up n) (q:=q) (q':=q+n) rfl vs j0 j
structure Vo.good (v:Vo):Prop where
 lo:0<v.l.length
 hi:v.l.length<=1000000
 ev: ∀e∈v.l,e.short
structure xC (c:List Vo):Prop where
 lo:0<c.length
 hi:c.length<=1000000
 vo: ∀v∈c,v.good
theorem aRj (c:List Vo) (h:xC c) (v0:Nat) (hv:v0<c.length):Own Tryz.prog gl 41 [bU c] (.msl 0 0 c.length 1) [(0,aZ (jU 1 c v0) c.length),(1,(c.getD v0 ⟨[]⟩).l.flatMap Ev.cells)] 2:=
 Tf c h.hi (fun v hv=>⟨(h.vo v hv).hi,(h.vo v hv).ev⟩) v0 hv (fun v hv=>(h.vo v hv).lo)
theorem aT9 (c:List Vo) (h:xC c):PC Tryz.prog gl 41 [bU c] (fun v=>v=bU c):=
 aHk c h.hi (fun v hv=>⟨(h.vo v hv).hi,(h.vo v hv).ev⟩) h.lo (fun v hv=>(h.vo v hv).lo)
def jG (q:Nat) (cs:List (List Vo)) (j0 j:Nat):List AV:=[if j=j0 then .msl q 0 (cs.getD j []).length 1 else bU (cs.getD j [])]
theorem wI {f:Nat->Option Nat} {q q':Nat} (h:f q=some q') (vs:List (List Vo)) (j0 j:Nat):(jG q vs j0 j).map (AV.ren f)=jG q' vs j0 j:=by
 by_cases hj:j=j0
 ·simp [jG,hj,AV.ren,h]
 ·simp [jG,hj,AV.ren,bU]
theorem aDh {f:Nat->Option Nat} {q q':Nat} (vs:List (List Vo)) (j0 j:Nat) (h:j≠j0):(jG q vs j0 j).map (AV.ren f)=jG q' vs j0 j:=by
 simp [jG,h,AV.ren,bU]
theorem yD {n q:Nat} {vs:List (List Vo)} {j0 i:Nat}:(aZ (jG q vs j0) i).map (AV.ren (up n))=aZ (jG (q+n) vs j0) i:=dO i fun j _=>wI (f:=up n) (q:=q) (q':=q+n) rfl vs j0 j
def Nq (q r:Nat) (cs:List (List Vo)) (j0 v0 i:Nat):List (Nat×List AV):=if j0<i then [(q,aZ (jU r (cs.getD j0 []) v0) (cs.getD j0 []).length),(r,((cs.getD j0 []).getD v0 ⟨[]⟩).l.flatMap Ev.cells)] else []
theorem aHr (vs:List (List Vo)) (hl:vs.length<=1000000) (hs: ∀c∈vs,xC c) (j0 v0:Nat) (hj:j0<vs.length) (hv0:v0< (vs.getD j0 []).length):
    Own Tryz.prog gl 40 [.sl 1 (vs.map bU) .none,.fn 41 [] []] (.msl 0 0 vs.length 1) [(0,aZ (jG 1 vs j0) vs.length),(1,aZ (jU 2 (vs.getD j0 []) v0) (vs.getD j0 []).length),(2,((vs.getD j0 []).getD v0 ⟨[]⟩).l.flatMap Ev.cells)] 3:=by
  (refine Own.intro 2 mix names (fn:=Tryz.f40) Tryz.func40 rfl fun F hF hro W=>?_;simp only[Tryz.ntmps40,Tryz.results40,aJ,Nat.reduceAdd,Nat.reduceSub])
  repeat' (simp -implicitDefEqProofs (disch:=first|assumption|omega) only[aA,aC,facts,Nat.reduceAdd, *])
  refine jV (fD 22 [1,5,8,9,10]) 103 vs.length (fun i (_:Unit)=>⟨[.ud,.fn 41 [] [],.ud,.ud,.ud,iR 100 1 i,.ud,.ud,.sl 1 (vs.map bU) .none,.int .i64 (vs.length:Nat),.int .i64 (i:Nat),.ud,.ud,.ud,.ud,.ud,.ud,.ud,.ud,.ud,.ud,.ud],[]⟩) (fun i _=>⟨hC (jI 100 (aZ (jG 101 vs j0) i) i++Nq 101 102 vs j0 v0 i),103⟩) (fun i _=>i<1000001) ⟨(),by omega,bI 5 [],gK 5 [],dH.of_fit rfl rfl rfl,by simp only[Nq,if_neg (Nat.not_lt_zero _)];exact aG.nil,rfl,rfl⟩ ?_
  rintro i x hi hi2
  rcases Nat.lt_or_ge i vs.length with hlt|hge
  · have hv:=hs vs[i] (List.getElem_mem hlt)
    have hget:vs.getD i []=vs[i]:=by rw[List.getD_eq_getElem?_getD,List.getElem?_eq_getElem hlt];rfl
    have hpc:=aT9 vs[i] hv
    by_cases hij:i=j0
    · subst hij
      rw[hget] at hv0
      have hown:=aRj vs[i] hv v0 hv0
      have hnlt: ¬i<i:=Nat.lt_irrefl i
      rcases i with _|i
      · simp only[aX,aY,Nq,if_neg hnlt,List.append_nil,aN]
        repeat' (first
    |simp -implicitDefEqProofs (disch:=first|assumption|omega) only[aA,aC,facts,if_pos,Nat.reduceAdd,Nat.reduceLT,Nat.reduceLeDiff,Int.reduceLE,Int.reduceAdd,gI,cO,List.flatMap_cons,List.flatMap_nil,AV.cells,true_or,AV.one,Jq,Jr,nC,eX,fH,aK,aN,gB,vT,wrap_in,List.getElem?_eq_getElem,bU,aT, *]
    |((with_reducible refine aF (fun _=>?_) (fun _=>?_))<;>try omega)
    | ((with_reducible refine aS 41 ?_);refine vZ hF hro hown (rfl) ?_))
        refine dN (0) () hlt (by omega) (by omega) (bI 5 [(113,100),(110,101),(111,102)]) (gK 5 [(113,100),(110,101),(111,102)]) (dH.of_fit rfl rfl rfl) ?_ rfl rfl
        simp only[Nq,if_pos (show 0<0+1 by omega),bJ,List.cons_append,List.nil_append,aK,aN,hget]
        refine aG.cons 113 rfl rfl ?_ (aG.cons 110 rfl rfl (dO _ fun j hj=>oQ (f:=bI 5 [(113,100),(110,101),(111,102)]) (q:=111) (q':=102) rfl _ _ j) (aG.cons 111 rfl rfl (gB _) aG.nil))
        rw[fE,wF];simp [jG,hlt,AV.ren,bI]
      · have hfl:(aZ (jG 101 vs (i+1)) (i+1)).length=(i+1):=by rw[iG (k:=1) (fun _=>rfl)];omega
        simp only[dY,bJ,Nq,if_neg hnlt,List.append_nil,aN,aK]
        repeat' (first
    |simp -implicitDefEqProofs (disch:=first|assumption|omega) only[aA,aC,facts,if_pos,if_neg,Nat.reduceAdd,Nat.reduceEqDiff,Nat.reduceLT,Nat.reduceLeDiff,gI,cO,List.flatMap_cons,List.flatMap_nil,AV.cells,AV.one,Jq,Jr,nC,eX,fH,aK,aN,gB,vT,wrap_in,List.getElem?_eq_getElem,bU,aT, *]
    |((with_reducible refine aF (fun _=>?_) (fun _=>?_))<;>try omega)
    | ((with_reducible refine aS 41 ?_);refine vZ hF hro hown (rfl) ?_))
        refine dN (i+1) () hlt (by omega) (by omega) (bI 5 [(113,100),(110,101),(111,102)]) (gK 5 [(113,100),(110,101),(111,102)]) (dH.of_fit rfl rfl rfl) ?_ rfl rfl
        simp only[Nq,if_pos (show i+1<i+1+1 by omega),bJ,List.cons_append,List.nil_append,aK,aN,hget]
        refine aG.cons 113 rfl rfl ?_ (aG.cons 110 rfl rfl (dO _ fun j hj=>oQ (f:=bI 5 [(113,100),(110,101),(111,102)]) (q:=111) (q':=102) rfl _ _ j) (aG.cons 111 rfl rfl (gB _) aG.nil))
        rw[fE (i:=i+1),List.map_append,dO (c':=jG 101 vs (i+1)) (i+1) fun j hj=>aDh vs (i+1) j (by omega)];simp [jG,hlt,AV.ren,bI]
    · rcases i with _|i
      · simp only[aX,aY,Nq,if_neg (Nat.not_lt_zero _),List.append_nil,aN]
        repeat' (first
    |simp -implicitDefEqProofs (disch:=first|assumption|omega) only[aA,aC,facts,if_pos,Nat.reduceAdd,Nat.reduceLT,Nat.reduceLeDiff,Int.reduceLE,Int.reduceAdd,gI,cO,List.flatMap_cons,List.flatMap_nil,AV.cells,true_or,AV.one,wrap_in,List.getElem?_eq_getElem,bU,aT, *]
    |((with_reducible refine aF (fun _=>?_) (fun _=>?_))<;>try omega)
    | ((with_reducible refine aS 41 ?_);refine PC.useZ hF hpc (rfl) fun v hv=>?_;subst hv))
        refine dN 0 () hlt (by omega) (by omega) (bI 5 [(111,100)]) (gK 5 [(111,100)]) (dH.of_fit rfl rfl rfl) ?_ rfl rfl
        simp only[Nq,if_neg (show¬j0<0+1 by omega),bJ,List.append_nil,aK,aN]
        refine aG.cons 111 rfl rfl ?_ aG.nil
        rw[fE,wF];simp [jG,hij,hlt,AV.ren,bU]
      · have hfl:(aZ (jG 101 vs j0) (i+1)).length=(i+1):=by rw[iG (k:=1) (fun _=>rfl)];omega
        by_cases hjl:j0<i+1
        · simp only[dY,bJ,Nq,if_pos hjl,List.cons_append,List.nil_append,aN,aK]
          repeat' (first
    |simp -implicitDefEqProofs (disch:=first|assumption|omega) only[aA,aC,facts,if_pos,if_neg,Nat.reduceAdd,Nat.reduceEqDiff,Nat.reduceLT,Nat.reduceLeDiff,gI,cO,List.flatMap_cons,List.flatMap_nil,AV.cells,AV.one,wrap_in,List.getElem?_eq_getElem,bU,aT, *]
    |((with_reducible refine aF (fun _=>?_) (fun _=>?_))<;>try omega)
    | ((with_reducible refine aS 41 ?_);refine PC.useZ hF hpc (rfl) fun v hv=>?_;subst hv))
          refine dN (i+1) () hlt (by omega) (by omega) (bI 5 [(111,100),(101,101),(102,102)]) (gK 5 [(111,100),(101,101),(102,102)]) (dH.of_fit rfl rfl rfl) ?_ rfl rfl
          simp only[Nq,if_pos (show j0<i+1+1 by omega),bJ,List.cons_append,List.nil_append,aK,aN]
          refine aG.cons 111 rfl rfl ?_ (aG.cons 101 rfl rfl (dO _ fun j hj=>oQ (f:=bI 5 [(111,100),(101,101),(102,102)]) (q:=102) (q':=102) rfl _ _ j) (aG.cons 102 rfl rfl (gB _) aG.nil))
          rw[fE (i:=i+1),List.map_append,dO (c':=jG 101 vs j0) (i+1) fun j hj=>wI (f:=bI 5 [(111,100),(101,101),(102,102)]) (q:=101) (q':=101) rfl vs j0 j];simp [jG,hij,hlt,AV.ren,bU]
        · simp only[dY,bJ,Nq,if_neg hjl,List.append_nil,aN,aK]
          repeat' (first
    |simp -implicitDefEqProofs (disch:=first|assumption|omega) only[aA,aC,facts,if_pos,Nat.reduceAdd,Nat.reduceLT,Nat.reduceLeDiff,gI,cO,List.flatMap_cons,List.flatMap_nil,AV.cells,AV.one,wrap_in,List.getElem?_eq_getElem,bU,aT, *]
    |((with_reducible refine aF (fun _=>?_) (fun _=>?_))<;>try omega)
    |((with_reducible refine aS 41 ?_);refine PC.useZ hF hpc (rfl) fun v hv=>?_;subst hv))
          refine dN (i+1) () hlt (by omega) (by omega) (bI 5 [(111,100)]) (gK 5 [(111,100)]) (dH.of_fit rfl rfl rfl) ?_ rfl rfl
          simp only[Nq,if_neg (show¬j0<i+1+1 by omega),bJ,List.append_nil,aK,aN]
          refine aG.cons 111 rfl rfl ?_ aG.nil
          rw[fE (i:=i+1),List.map_append,dO (c':=jG 101 vs j0) (i+1) fun j hj=>aDh vs j0 j (by omega)];simp [jG,hij,hlt,AV.ren,bU]
  · have:i=vs.length:=by omega
    subst this
    obtain⟨n,hn⟩: ∃n,vs.length=n+1:=⟨vs.length - 1,by omega⟩
    repeat' (first
    |simp -implicitDefEqProofs (disch:=first|assumption|omega) only[aA,aC,facts,Nat.reduceAdd,aT, *]
    |((with_reducible refine aF (fun _=>?_) (fun _=>?_))<;>try omega))
    refine vI.of [(100,0),(101,1),(102,2)] rfl ?_ rfl
    simp only[Nq,if_pos (show j0<n+1 by omega),bJ,List.cons_append,List.nil_append,aK,aN]
    refine aG.cons 100 rfl rfl (dO (n+1) fun j hj=>wI (f:=bI 0 [(100,0),(101,1),(102,2)]) (q:=101) (q':=1) rfl vs j0 j) (aG.cons 101 rfl rfl (dO _ fun j hj=>oQ (f:=bI 0 [(100,0),(101,1),(102,2)]) (q:=102) (q':=2) rfl _ _ j) (aG.cons 102 rfl rfl (gB _) aG.nil))
theorem nZ {α:Type} {c:α->AV}: ∀l:List α,(l.flatMap fun v=>[c v])=l.map c
 |[]=>rfl
 |x::l=>by rw[List.flatMap_cons,nZ l];rfl
theorem aSj {sty:Nat->Bool} {hp:Hp} {d key q r:Nat} (vs:List (List Vo)) (j0 v0:Nat) (hj:j0<vs.length) (hv0:v0< (vs.getD j0 []).length) (hs:sty key=false) (hsq:sty q=true) (hk:hp key=some (.cells (aZ (jG q vs j0) vs.length)))
  (hq:hp q=some (.cells (aZ (jU r (vs.getD j0 []) v0) (vs.getD j0 []).length))) (hr:hp r=some (.cells (((vs.getD j0 []).getD v0 ⟨[]⟩).l.flatMap Ev.cells))):
  AV.nowS sty hp (d+3) (.msl key 0 vs.length 1)= .sl 1 (vs.map bU) .none:=by
 have hrow:(aZ (jG q vs j0) vs.length).map (AV.nowS sty hp (d+2))=vs.flatMap fun v=>[bU v]:=by
  rw[Bz (c':=fun j=>[bU (vs.getD j [])]) _ fun j hj'=>?_]
  ·exact Pe fun j hj'=>by rw[List.getD_eq_getElem?_getD,List.getElem?_eq_getElem hj'];rfl
  ·by_cases e:j=j0
   ·subst e
    simp only[jG,if_true,List.map_cons,List.map_nil]
    rw[aR7 _ v0 hv0 hsq hq hr];rfl
   ·simp only[jG,if_neg e,List.map_cons,List.map_nil]
    rfl
 refine(pJ hk (by decide) hrow (by rw[iG (k:=1) (fun _=>rfl)];omega) (kZ (fun _=>rfl) vs)).trans ?_
 rw[hs,Bool.or_false,nZ vs,show(!(Nat.beq 1 1))=false from rfl,zI vs]
end Go.Proofs.Pv
