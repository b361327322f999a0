/-
  Layer 9's edits: copies of plain slices.
  Layer 9's edits: copies of events.
  Layer 9's edits: copies of voices.
  Layer 9's edits: copies of cells, and of dynamics.
  Conditions: none but those that each statement names.
-/
import Derived.Test.YtpapgaocjhnoiaaGreatDoorF08
import Derived.Test.YtpapgaocjhnoiaaGreatDoorD08
set_option linter.unusedVariables false
set_option linter.unusedSimpArgs false
namespace Go.Proofs.Pv
open Go Go.Proofs
theorem rF (l:List Int) (hl:l.length≤1000000):PC Tryz.prog gl 80 [.sl 1 (l.map (AV.int .i64)) .none] (fun v=>v= .sl 1 (l.map (AV.int .i64)) .none):=by
 cases l with
 |nil=>
  (refine PC.introZ 1 mix (fn:=Tryz.f80) Tryz.func80 rfl (names 80 _ Tryz.func80) fun F hF hro W=>?_;simp -implicitDefEqProofs only[Tryz.ntmps80,Tryz.results80,aI,Nat.reduceAdd,Nat.reduceSub])
  repeat' (first
  |simp -implicitDefEqProofs (disch:=first|assumption|omega) only[aB,aC,facts,Nat.reduceAdd,kE,kF,yZ,uF,nG,lI,Option.map_none, *]
  |with_reducible refine kG ?_)
  refine wV ?_ ?_
  all_goals repeat' (simp -implicitDefEqProofs (disch:=first|assumption|omega) only[aB,aC,facts,if_pos,Nat.reduceAdd,Nat.reduceLT,Nat.reduceMul, *])
 |cons x l=>
  simp only[List.length_cons] at hl
  (refine PC.introZ 1 mix (fn:=Tryz.f80) Tryz.func80 rfl (names 80 _ Tryz.func80) fun F hF hro W=>?_;simp -implicitDefEqProofs only[Tryz.ntmps80,Tryz.results80,aI,Nat.reduceAdd,Nat.reduceSub])
  repeat' (simp -implicitDefEqProofs (disch:=first|assumption|omega) only[aB,aC,facts,if_pos,Nat.reduceAdd,Nat.reduceLT,kE,kF,Tj,lI,Option.map_none, *])
  all_goals trace_state
theorem Hg (l:List Bool) (hl:l.length≤1000000):PC Tryz.prog gl 87 [.sl 1 (l.map AV.bool) .none] (fun v=>v= .sl 1 (l.map AV.bool) .none):=by
 cases l with
 |nil=>
  (refine PC.introZ 1 mix (fn:=Tryz.f87) Tryz.func87 rfl (names 87 _ Tryz.func87) fun F hF hro W=>?_;simp -implicitDefEqProofs only[Tryz.ntmps87,Tryz.results87,aI,Nat.reduceAdd,Nat.reduceSub])
  repeat' (first
  |simp -implicitDefEqProofs (disch:=first|assumption|omega) only[aB,aC,facts,Nat.reduceAdd,kE,kF,yZ,uF,nG,lI,Option.map_none, *]
  |with_reducible refine kG ?_)
  refine wV ?_ ?_
  all_goals repeat' (simp -implicitDefEqProofs (disch:=first|assumption|omega) only[aB,aC,facts,if_pos,Nat.reduceAdd,Nat.reduceLT, *])
 |cons x l=>
  simp only[List.length_cons] at hl
  (refine PC.introZ 1 mix (fn:=Tryz.f87) Tryz.func87 rfl (names 87 _ Tryz.func87) fun F hF hro W=>?_;simp -implicitDefEqProofs only[Tryz.ntmps87,Tryz.results87,aI,Nat.reduceAdd,Nat.reduceSub])
  repeat' (simp -implicitDefEqProofs (disch:=first|assumption|omega) only[aB,aC,facts,if_pos,Nat.reduceAdd,Nat.reduceLT,Nat.reduceLeDiff,kE,kF,Tj,lI,Option.map_none, *])
  all_goals trace_state
theorem aAg (l:List Pi) (hl:l.length≤1000000):PC Tryz.prog gl 86 [.sl 3 (l.map Pi.av) .none] (fun v=>v= .sl 3 (l.map Pi.av) .none):=by
 cases l with
 |nil=>
  (refine PC.introZ 1 mix (fn:=Tryz.f86) Tryz.func86 rfl (names 86 _ Tryz.func86) fun F hF hro W=>?_;simp -implicitDefEqProofs only[Tryz.ntmps86,Tryz.results86,aI,Nat.reduceAdd,Nat.reduceSub])
  repeat' (first
  |simp -implicitDefEqProofs (disch:=first|assumption|omega) only[aB,aC,facts,Nat.reduceAdd,kE,kF,yZ,uF,nG,lI,Option.map_none, *]
  |with_reducible refine kG ?_)
  refine wV ?_ ?_
  all_goals repeat' (simp -implicitDefEqProofs (disch:=first|assumption|omega) only[aB,aC,facts,if_pos,Nat.reduceAdd,Nat.reduceLT,Nat.reduceMul, *])
 |cons x l=>
  simp only[List.length_cons] at hl
  (refine PC.introZ 1 mix (fn:=Tryz.f86) Tryz.func86 rfl (names 86 _ Tryz.func86) fun F hF hro W=>?_;simp -implicitDefEqProofs only[Tryz.ntmps86,Tryz.results86,aI,Nat.reduceAdd,Nat.reduceSub])
  repeat' (simp -implicitDefEqProofs (disch:=first|assumption|omega) only[aB,aC,facts,if_pos,Nat.reduceAdd,Nat.reduceLT,Nat.reduceMul,kE,kF,Tj,lI,Option.map_none, *])
  all_goals trace_state
theorem Qd (l:List Dy) (hl:l.length≤1000000):PC Tryz.prog gl 43 [.sl 4 (l.map Dy.av) .none] (fun v=>v= .sl 4 (l.map Dy.av) .none):=by
 cases l with
 |nil=>
  (refine PC.introZ 1 mix (fn:=Tryz.f43) Tryz.func43 rfl (names 43 _ Tryz.func43) fun F hF hro W=>?_;simp -implicitDefEqProofs only[Tryz.ntmps43,Tryz.results43,aI,Nat.reduceAdd,Nat.reduceSub])
  repeat' (first
  |simp -implicitDefEqProofs (disch:=first|assumption|omega) only[aB,aC,facts,Nat.reduceAdd,kE,kF,yZ,uF,nG,lI,Option.map_none, *]
  |with_reducible refine kG ?_)
  refine wV ?_ ?_
  all_goals repeat' (simp -implicitDefEqProofs (disch:=first|assumption|omega) only[aB,aC,facts,if_pos,Nat.reduceAdd,Nat.reduceLT,Nat.reduceMul, *])
 |cons x l=>
  simp only[List.length_cons] at hl
  (refine PC.introZ 1 mix (fn:=Tryz.f43) Tryz.func43 rfl (names 43 _ Tryz.func43) fun F hF hro W=>?_;simp -implicitDefEqProofs only[Tryz.ntmps43,Tryz.results43,aI,Nat.reduceAdd,Nat.reduceSub])
  repeat' (simp -implicitDefEqProofs (disch:=first|assumption|omega) only[aB,aC,facts,if_pos,Nat.reduceAdd,Nat.reduceLT,Nat.reduceMul,kE,kF,Tj,lI,Option.map_none, *])
  all_goals trace_state
theorem aAh (l:List Te) (hl:l.length≤1000000):PC Tryz.prog gl 81 [.sl 4 (l.map Te.av) .none] (fun v=>v= .sl 4 (l.map Te.av) .none):=by
 cases l with
 |nil=>
  (refine PC.introZ 1 mix (fn:=Tryz.f81) Tryz.func81 rfl (names 81 _ Tryz.func81) fun F hF hro W=>?_;simp -implicitDefEqProofs only[Tryz.ntmps81,Tryz.results81,aI,Nat.reduceAdd,Nat.reduceSub])
  repeat' (first
  |simp -implicitDefEqProofs (disch:=first|assumption|omega) only[aB,aC,facts,Nat.reduceAdd,kE,kF,yZ,uF,nG,lI,Option.map_none, *]
  |with_reducible refine kG ?_)
  refine wV ?_ ?_
  all_goals repeat' (simp -implicitDefEqProofs (disch:=first|assumption|omega) only[aB,aC,facts,if_pos,Nat.reduceAdd,Nat.reduceLT,Nat.reduceMul, *])
 |cons x l=>
  simp only[List.length_cons] at hl
  (refine PC.introZ 1 mix (fn:=Tryz.f81) Tryz.func81 rfl (names 81 _ Tryz.func81) fun F hF hro W=>?_;simp -implicitDefEqProofs only[Tryz.ntmps81,Tryz.results81,aI,Nat.reduceAdd,Nat.reduceSub])
  repeat' (simp -implicitDefEqProofs (disch:=first|assumption|omega) only[aB,aC,facts,if_pos,Nat.reduceAdd,Nat.reduceLT,Nat.reduceMul,kE,kF,Tj,lI,Option.map_none, *])
  all_goals trace_state
end Go.Proofs.Pv
namespace Go.Proofs.Pv
open Go Go.Proofs
structure Ev.short (e:Ev):Prop where
 p:e.pitches.length≤1000000
 t:e.ties.length≤1000000
 m:e.marks.length≤1000000
set_option maxRecDepth 100000 in
theorem pW (l:List Ev) (hl:l.length≤1000000) (hs: ∀e∈l,e.short):Own Tryz.prog gl 49 [.sl 9 (l.map Ev.av) .none] (iR 0 9 l.length) (jF 0 (l.flatMap Ev.cells) l.length) 1:=by
  (refine Own.intro 2 mix names (fn:=Tryz.f49) Tryz.func49 rfl fun F hF hro W=>?_;simp -implicitDefEqProofs only[Tryz.ntmps49,Tryz.results49,aI,Nat.reduceAdd,Nat.reduceSub])
  repeat' (simp -implicitDefEqProofs (disch:=first|assumption|omega) only[aB,aC,facts,Nat.reduceAdd, *])
  refine jY (jQ 30 [3,6,7,8]) 101 l.length (fun i (_:Unit)=>⟨[.ud,.ud,.ud,iR 100 9 i,.ud,.ud,.sl 9 (l.map Ev.av) .none,.int .i64 (l.length:Nat),.int .i64 (i:Nat),.ud,.ud,.ud,.ud,.ud,.ud,.ud,.ud,.ud,.ud,.ud,.ud,.ud,.ud,.ud,.ud,.ud,.ud,.ud,.ud,.ud],[]⟩) (fun i _=>⟨hC (jF 100 ((l.take i).flatMap Ev.cells) i),101⟩) (fun i _=>i<1000001) ⟨(),by omega,bI 5 [],gK 5 [],dF.of_fit rfl rfl rfl,aF.nil,rfl,rfl⟩ ?_
  rintro i x hi hi2
  rcases Nat.lt_or_ge i l.length with hlt|hge
  · have he:=hs l[i] (List.getElem_mem hlt)
    have hp:=he.p
    have ht:=he.t
    have hm:=he.m
    rcases i with _|i
    · simp only[iR,jF,hC,List.map_nil]
      repeat' (first
    |simp -implicitDefEqProofs (disch:=first|assumption|omega) only[aB,aC,facts,if_pos,if_neg,Nat.reduceAdd,Nat.reduceEqDiff,Nat.reduceLT,Nat.reduceLeDiff,Int.reduceLE,Int.reduceAdd,fZ,dB,List.flatMap_cons,List.flatMap_nil,AV.cells,true_or,AV.one,wrap_in,List.getElem?_eq_getElem,Ev.av,aX, *]
    |((with_reducible refine w_at 86 ?_);refine iP (aAg _ hp) (rfl) ?_)
    |((with_reducible refine w_at 87 ?_);refine iP (Hg _ ht) (rfl) ?_)
    |((with_reducible refine w_at 80 ?_);refine iP (rF _ hm) (rfl) ?_)
    |((with_reducible refine aH (fun _=>?_) (fun _=>?_))<;>try omega)
    |((with_reducible refine aQ ?_);refine jB (by decide+kernel) ?_)
    | ((with_reducible refine dN ?_ ?_);· decide+kernel))
      refine dM 0 () hlt (by omega) (by omega) (bI 5 [(124,100)]) (gK 5 [(124,100)]) ?_ ?_ rfl ?_
      · exact dF.of_fit rfl rfl rfl
      · refine aF.cons 124 rfl rfl ?_ aF.nil
        rw[jJ hlt];rfl
      · rfl
    · have hfl:((l.take (i+1)).flatMap Ev.cells).length=(i+1)*9:=by rw[flat_length (k:=9) (fun _=>rfl),List.length_take];omega
      simp only[iR,jF,hC,List.map_cons,List.map_nil]
      repeat' (first
    |simp -implicitDefEqProofs (disch:=first|assumption|omega) only[aB,aC,facts,if_pos,if_neg,Nat.reduceAdd,Nat.reduceEqDiff,Nat.reduceLT,Nat.reduceLeDiff,fZ,dB,List.flatMap_cons,List.flatMap_nil,AV.cells,AV.one,wrap_in,List.getElem?_eq_getElem,Ev.av,aX, *]
    |((with_reducible refine w_at 86 ?_);refine iP (aAg _ hp) (rfl) ?_)
    |((with_reducible refine w_at 87 ?_);refine iP (Hg _ ht) (rfl) ?_)
    |((with_reducible refine w_at 80 ?_);refine iP (rF _ hm) (rfl) ?_)
    |((with_reducible refine aH (fun _=>?_) (fun _=>?_))<;>try omega)
    |((with_reducible refine aQ ?_);refine jB (by decide+kernel) ?_)
    | ((with_reducible refine dN ?_ ?_);· decide+kernel))
      refine dM (i+1) () hlt (by omega) (by omega) (bI 5 [(124,100)]) (gK 5 [(124,100)]) ?_ ?_ rfl ?_
      · exact dF.of_fit rfl rfl rfl
      · refine aF.cons 124 rfl rfl ?_ aF.nil
        rw[jJ hlt,List.map_append,fO];rfl
      · rfl
  · have:i=l.length:=by omega
    subst this
    repeat' (first
    |simp -implicitDefEqProofs (disch:=first|assumption|omega) only[aB,aC,facts,Nat.reduceAdd,aX, *]
    |((with_reducible refine aH (fun _=>?_) (fun _=>?_))<;>try omega))
    rw[List.take_length]
    exact Le fun f=>fO l
theorem Vz (l:List Ev) (hl:l.length≤1000000) (hs: ∀e∈l,e.short):PC Tryz.prog gl 49 [.sl 9 (l.map Ev.av) .none] (fun v=>v= .sl 9 (l.map Ev.av) .none):=by
 refine PC.of_own (pW l hl hs) 3 ?_
 cases l with
 |nil=>rfl
 |cons x l=>
  refine(aS5 (cs:=(x::l).flatMap Ev.cells) rfl (by decide) (aIw evNow _) (by rw[flat_length (k:=9) (fun _=>rfl)];simp) (lC (fun _=>rfl) _)).trans ?_
  have:=lM (c:=Ev.cells) (k:=9) (fun _=>rfl) (x::l)
  simp only[List.length_cons] at this
  rw[show(!(Nat.beq 9 1))=true from rfl,this]
  rfl
end Go.Proofs.Pv
namespace Go.Proofs.Pv
open Go Go.Proofs
theorem mW {n k a b c:Nat}:AV.ren (up n) (.msl k a b c)= .msl (k+n) a b c:=rfl
theorem fC {n:Nat}:hup n []=[]:=rfl
theorem eU {n k:Nat} {cs:List AV} {r:List (Nat×List AV)}:hup n ((k,cs)::r)=(k+n,cs.map (AV.ren (up n)))::hup n r:=rfl
theorem aN:hC []=[]:=rfl
theorem aJ {k:Nat} {cs:List AV} {r:List (Nat×List AV)}:hC ((k,cs)::r)=(k,.cells cs)::hC r:=rfl
theorem eH {k s n:Nat}:iR k s (n+1)= .msl k 0 (n+1) s:=rfl
theorem aU {k s:Nat}:iR k s 0= .sl s [] .mut:=rfl
theorem bM {k n:Nat} {cs:List AV}:jF k cs (n+1)=[(k,cs)]:=rfl
theorem aV {k:Nat} {cs:List AV}:jF k cs 0=[]:=rfl
def aS (c:Nat→List AV) (i:Nat):List AV:=(List.range i).flatMap c
theorem eX {c:Nat→List AV} {i:Nat}:aS c (i+1)=aS c i++c i:=by
 unfold aS
 rw[List.range_succ,List.flatMap_append];simp
theorem vG {c:Nat→List AV}:aS c 0=[]:=rfl
theorem gW {c:Nat→List AV} {k:Nat} (h: ∀j,(c j).length=k) (i:Nat):(aS c i).length=i*k:=by
 unfold aS;rw[flat_length h];simp
theorem dK {f:Nat→Option Nat} {c c':Nat→List AV} (i:Nat) (h: ∀j,j<i→(c j).map (AV.ren f)=c' j):(aS c i).map (AV.ren f)=aS c' i:=by
 induction i with
 |zero=>rfl
 |succ i ih=>rw[eX,eX,List.map_append,ih fun j hj=>h j (by omega),h i (by omega)]
def jI (q:Nat) (vs:List Vo) (j0 j:Nat):List AV:=[if j=j0 then .msl q 0 (vs.getD j ⟨[]⟩).l.length 9 else .sl 9 ((vs.getD j ⟨[]⟩).l.map Ev.av) .none]
theorem nR {f:Nat→Option Nat} {q q':Nat} (h:f q=some q') (vs:List Vo) (j0 j:Nat):(jI q vs j0 j).map (AV.ren f)=jI q' vs j0 j:=by
 by_cases hj:j=j0
 ·simp [jI,hj,AV.ren,h]
 ·simp [jI,hj,AV.ren]
theorem aCh {f:Nat→Option Nat} {q q':Nat} (vs:List Vo) (j0 j:Nat) (h:j≠j0):(jI q vs j0 j).map (AV.ren f)=jI q' vs j0 j:=by
 simp [jI,h,AV.ren]
def Ju (q:Nat) (vs:List Vo) (j0 i:Nat):List (Nat×List AV):=if j0<i then [(q,(vs.getD j0 ⟨[]⟩).l.flatMap Ev.cells)] else []
set_option maxRecDepth 100000 in
theorem Rk (vs:List Vo) (hl:vs.length≤1000000) (hs: ∀v∈vs,v.l.length≤1000000∧ ∀e∈v.l,e.short) (j0:Nat) (hj:j0<vs.length) (hne: ∀v∈vs,0<v.l.length):
    Own Tryz.prog gl 41 [.sl 1 (vs.map Vo.av) .none] (.msl 0 0 vs.length 1) [(0,aS (jI 1 vs j0) vs.length),(1,(vs.getD j0 ⟨[]⟩).l.flatMap Ev.cells)] 2:=by
  (refine Own.intro 2 mix names (fn:=Tryz.f41) Tryz.func41 rfl fun F hF hro W=>?_;simp -implicitDefEqProofs only[Tryz.ntmps41,Tryz.results41,aI,Nat.reduceAdd,Nat.reduceSub])
  repeat' (simp -implicitDefEqProofs (disch:=first|assumption|omega) only[aB,aC,facts,Nat.reduceAdd, *])
  refine jY (jQ 21 [3,6,7,8]) 102 vs.length (fun i (_:Unit)=>⟨[.ud,.ud,.ud,iR 100 1 i,.ud,.ud,.sl 1 (vs.map Vo.av) .none,.int .i64 (vs.length:Nat),.int .i64 (i:Nat),.ud,.ud,.ud,.ud,.ud,.ud,.ud,.ud,.ud,.ud,.ud,.ud],[]⟩) (fun i _=>⟨hC (jF 100 (aS (jI 101 vs j0) i) i++Ju 101 vs j0 i),102⟩) (fun i _=>i<1000001) ⟨(),by omega,bI 5 [],gK 5 [],dF.of_fit rfl rfl rfl,by simp only[Ju,if_neg (Nat.not_lt_zero _)];exact aF.nil,rfl,rfl⟩ ?_
  rintro i x hi hi2
  rcases Nat.lt_or_ge i vs.length with hlt|hge
  · have hv:=hs vs[i] (List.getElem_mem hlt)
    have hn0:=hne vs[i] (List.getElem_mem hlt)
    have hget:vs.getD i ⟨[]⟩=vs[i]:=by rw[List.getD_eq_getElem?_getD,List.getElem?_eq_getElem hlt];rfl
    obtain⟨n,hn⟩: ∃n,vs[i].l.length=n+1:=⟨vs[i].l.length - 1,by omega⟩
    have hpc:=Vz vs[i].l hv.1 hv.2
    have hown:=pW vs[i].l hv.1 hv.2
    rw[hn] at hown
    simp only[eH,bM] at hown
    by_cases hij:i=j0
    · subst hij
      have hnlt: ¬i<i:=Nat.lt_irrefl i
      rcases i with _|i
      · simp only[aU,aV,Ju,if_neg hnlt,List.append_nil,aN]
        repeat' (first
    |simp -implicitDefEqProofs (disch:=first|assumption|omega) only[aB,aC,facts,if_pos,Nat.reduceAdd,Nat.reduceLT,Nat.reduceLeDiff,Int.reduceLE,Int.reduceAdd,fZ,dB,List.flatMap_cons,List.flatMap_nil,AV.cells,true_or,AV.one,qN,wJ,mW,eU,fC,aJ,aN,fO,wrap_in,List.getElem?_eq_getElem,Vo.av,aX, *]
    |((with_reducible refine aH (fun _=>?_) (fun _=>?_))<;>try omega)
    | ((with_reducible refine aT 49 ?_);refine uY hF hro hown (rfl) ?_))
        refine dM 0 () hlt (by omega) (by omega) (bI 5 [(113,100),(110,101)]) (gK 5 [(113,100),(110,101)]) (dF.of_fit rfl rfl rfl) ?_ rfl rfl
        simp only[Ju,if_pos (show 0<0+1 by omega),bM,List.cons_append,List.nil_append,aJ,aN]
        refine aF.cons 113 rfl rfl ?_ (aF.cons 110 rfl rfl (fO _) aF.nil)
        rw[eX,vG];simp [jI,hlt,hn,AV.ren,bI]
      · have hfl:(aS (jI 101 vs (i+1)) (i+1)).length=(i+1):=by rw[gW (k:=1) (fun _=>rfl)];omega
        simp only[eH,bM,Ju,if_neg hnlt,List.append_nil,aN,aJ]
        repeat' (first
    |simp -implicitDefEqProofs (disch:=first|assumption|omega) only[aB,aC,facts,if_pos,if_neg,Nat.reduceAdd,Nat.reduceEqDiff,Nat.reduceLT,Nat.reduceLeDiff,fZ,dB,List.flatMap_cons,List.flatMap_nil,AV.cells,AV.one,qN,wJ,mW,eU,fC,aJ,aN,fO,wrap_in,List.getElem?_eq_getElem,Vo.av,aX, *]
    |((with_reducible refine aH (fun _=>?_) (fun _=>?_))<;>try omega)
    | ((with_reducible refine aT 49 ?_);refine uY hF hro hown (rfl) ?_))
        refine dM (i+1) () hlt (by omega) (by omega) (bI 5 [(113,100),(110,101)]) (gK 5 [(113,100),(110,101)]) (dF.of_fit rfl rfl rfl) ?_ rfl rfl
        simp only[Ju,if_pos (show i+1<i+1+1 by omega),bM,List.cons_append,List.nil_append,aJ,aN]
        refine aF.cons 113 rfl rfl ?_ (aF.cons 110 rfl rfl (fO _) aF.nil)
        rw[eX (i:=i+1),List.map_append,dK (c':=jI 101 vs (i+1)) (i+1) fun j hj=>aCh vs (i+1) j (by omega)];simp [jI,hlt,hn,AV.ren,bI]
    · rcases i with _|i
      · simp only[aU,aV,Ju,if_neg (Nat.not_lt_zero _),List.append_nil,aN]
        repeat' (first
    |simp -implicitDefEqProofs (disch:=first|assumption|omega) only[aB,aC,facts,if_pos,Nat.reduceAdd,Nat.reduceLT,Nat.reduceLeDiff,Int.reduceLE,Int.reduceAdd,fZ,dB,List.flatMap_cons,List.flatMap_nil,AV.cells,true_or,AV.one,wrap_in,List.getElem?_eq_getElem,Vo.av,aX, *]
    |((with_reducible refine aH (fun _=>?_) (fun _=>?_))<;>try omega)
    | ((with_reducible refine aT 49 ?_);refine PC.useZ hF hpc (rfl) fun v hv=>?_;subst hv))
        refine dM 0 () hlt (by omega) (by omega) (bI 5 [(112,100)]) (gK 5 [(112,100)]) (dF.of_fit rfl rfl rfl) ?_ rfl rfl
        simp only[Ju,if_neg (show¬j0<0+1 by omega),bM,List.append_nil,aJ,aN]
        refine aF.cons 112 rfl rfl ?_ aF.nil
        rw[eX,vG];simp [jI,hij,hlt,AV.ren]
      · have hfl:(aS (jI 101 vs j0) (i+1)).length=(i+1):=by rw[gW (k:=1) (fun _=>rfl)];omega
        by_cases hjl:j0<i+1
        · simp only[eH,bM,Ju,if_pos hjl,List.cons_append,List.nil_append,aN,aJ]
          repeat' (first
    |simp -implicitDefEqProofs (disch:=first|assumption|omega) only[aB,aC,facts,if_pos,if_neg,Nat.reduceAdd,Nat.reduceEqDiff,Nat.reduceLT,Nat.reduceLeDiff,fZ,dB,List.flatMap_cons,List.flatMap_nil,AV.cells,AV.one,wrap_in,List.getElem?_eq_getElem,Vo.av,aX, *]
    |((with_reducible refine aH (fun _=>?_) (fun _=>?_))<;>try omega)
    | ((with_reducible refine aT 49 ?_);refine PC.useZ hF hpc (rfl) fun v hv=>?_;subst hv))
          refine dM (i+1) () hlt (by omega) (by omega) (bI 5 [(112,100),(101,101)]) (gK 5 [(112,100),(101,101)]) (dF.of_fit rfl rfl rfl) ?_ rfl rfl
          simp only[Ju,if_pos (show j0<i+1+1 by omega),bM,List.cons_append,List.nil_append,aJ,aN]
          refine aF.cons 112 rfl rfl ?_ (aF.cons 101 rfl rfl (fO _) aF.nil)
          rw[eX (i:=i+1),List.map_append,dK (c':=jI 101 vs j0) (i+1) fun j hj=>nR (f:=bI 5 [(112,100),(101,101)]) (q:=101) (q':=101) rfl vs j0 j];simp [jI,hij,hlt,AV.ren]
        · simp only[eH,bM,Ju,if_neg hjl,List.append_nil,aN,aJ]
          repeat' (first
    |simp -implicitDefEqProofs (disch:=first|assumption|omega) only[aB,aC,facts,if_pos,Nat.reduceAdd,Nat.reduceEqDiff,Nat.reduceLT,Nat.reduceLeDiff,fZ,dB,List.flatMap_cons,List.flatMap_nil,AV.cells,AV.one,wrap_in,List.getElem?_eq_getElem,Vo.av,aX, *]
    |((with_reducible refine aH (fun _=>?_) (fun _=>?_))<;>try omega)
    |((with_reducible refine aT 49 ?_);refine PC.useZ hF hpc (rfl) fun v hv=>?_;subst hv))
          refine dM (i+1) () hlt (by omega) (by omega) (bI 5 [(112,100)]) (gK 5 [(112,100)]) (dF.of_fit rfl rfl rfl) ?_ rfl rfl
          simp only[Ju,if_neg (show¬j0<i+1+1 by omega),bM,List.append_nil,aJ,aN]
          refine aF.cons 112 rfl rfl ?_ aF.nil
          rw[eX (i:=i+1),List.map_append,dK (c':=jI 101 vs j0) (i+1) fun j hj=>aCh vs j0 j (by omega)];simp [jI,hij,hlt,AV.ren]
  · have:i=vs.length:=by omega
    subst this
    obtain⟨n,hn⟩: ∃n,vs.length=n+1:=⟨vs.length - 1,by omega⟩
    repeat' (first
    |simp -implicitDefEqProofs (disch:=first|assumption|omega) only[aB,aC,facts,Nat.reduceAdd,aX, *]
    |((with_reducible refine aH (fun _=>?_) (fun _=>?_))<;>try omega))
    refine uI.of [(100,0),(101,1)] rfl ?_ rfl
    simp only[Ju,if_pos (show j0<n+1 by omega),bM,List.cons_append,List.nil_append,aJ,aN]
    refine aF.cons 100 rfl rfl (dK (n+1) fun j hj=>nR (f:=bI 0 [(100,0),(101,1)]) (q:=101) (q':=1) rfl vs j0 j) (aF.cons 101 rfl rfl (fO _) aF.nil)
theorem Nv {α:Type} [Inhabited α] {l:List α} {c:Nat→List AV} {c':α→List AV} (h: ∀j (hj:j<l.length),c j=c' l[j]):aS c l.length=l.flatMap c':=by
 have: ∀i,i≤l.length→aS c i=(l.take i).flatMap c':=by
  intro i hi
  induction i with
  |zero=>rfl
  |succ i ih=>rw[eX,ih (by omega),jJ (show i<l.length by omega),h i (by omega)]
 rw[this _ (Nat.le_refl _),List.take_length]
theorem Ac {f:AV→AV} {c c':Nat→List AV} (i:Nat) (h: ∀j,j<i→(c j).map f=c' j):(aS c i).map f=aS c' i:=by
 induction i with
 |zero=>rfl
 |succ i ih=>rw[eX,eX,List.map_append,ih fun j hj=>h j (by omega),h i (by omega)]
instance:Inhabited Vo:=⟨⟨[]⟩⟩
theorem aQ8 {sty:Nat→Bool} {hp:Hp} {d key q:Nat} (vs:List Vo) (j0:Nat) (hj:j0<vs.length) (hs:sty key=true) (hk:hp key=some (.cells (aS (jI q vs j0) vs.length))) (hq:hp q=some (.cells ((vs.getD j0 ⟨[]⟩).l.flatMap Ev.cells))):
  AV.nowS sty hp (d+2) (.msl key 0 vs.length 1)= .sl 1 (vs.map Vo.av) .none:=by
 have hrow:(aS (jI q vs j0) vs.length).map (AV.nowS sty hp (d+1))=vs.flatMap fun v=>[.sl 9 (v.l.map Ev.av) .none]:=by
  rw[Ac (c':=fun j=>[.sl 9 ((vs.getD j ⟨[]⟩).l.map Ev.av) .none]) _ fun j hj'=>?_]
  ·exact Nv fun j hj'=>by rw[List.getD_eq_getElem?_getD,List.getElem?_eq_getElem hj'];rfl
  ·by_cases e:j=j0
   ·subst e
    simp only[jI,if_true,List.map_cons,List.map_nil]
    rw[aIx _ rfl hq]
   ·simp only[jI,if_neg e,List.map_cons,List.map_nil]
    rfl
 refine(pU hk (by decide) hrow (by rw[gW (k:=1) (fun _=>rfl)];omega) (lC (fun _=>rfl) vs)).trans ?_
 rw[hs,Bool.or_true,lM (c:=fun v:Vo=>[AV.sl 9 (v.l.map Ev.av) .none]) (k:=1) (fun _=>rfl) vs]
 rfl
theorem aHc (vs:List Vo) (hl:vs.length≤1000000) (hs: ∀v∈vs,v.l.length≤1000000∧ ∀e∈v.l,e.short) (h0:0<vs.length) (hne: ∀v∈vs,0<v.l.length):
  PC Tryz.prog gl 41 [.sl 1 (vs.map Vo.av) .none] (fun v=>v= .sl 1 (vs.map Vo.av) .none):=
 PC.of_ownS (Rk vs hl hs 0 h0 hne) 2 (aQ8 (sty:=fun _=>true) (d:=0) vs 0 h0 rfl rfl rfl)
end Go.Proofs.Pv
namespace Go.Proofs.Pv
open Go Go.Proofs
theorem uS {n q:Nat} {vs:List Vo} {j0 i:Nat}:(aS (jI q vs j0) i).map (AV.ren (up n))=aS (jI (q+n) vs j0) i:=dK i fun j _=>nR (f:=up n) (q:=q) (q':=q+n) rfl vs j0 j
structure Vo.good (v:Vo):Prop where
 lo:0<v.l.length
 hi:v.l.length≤1000000
 ev: ∀e∈v.l,e.short
structure wH (c:List Vo):Prop where
 lo:0<c.length
 hi:c.length≤1000000
 vo: ∀v∈c,v.good
theorem aQk (c:List Vo) (h:wH c) (v0:Nat) (hv:v0<c.length):Own Tryz.prog gl 41 [bW c] (.msl 0 0 c.length 1) [(0,aS (jI 1 c v0) c.length),(1,(c.getD v0 ⟨[]⟩).l.flatMap Ev.cells)] 2:=
 Rk c h.hi (fun v hv=>⟨(h.vo v hv).hi,(h.vo v hv).ev⟩) v0 hv (fun v hv=>(h.vo v hv).lo)
theorem aS2 (c:List Vo) (h:wH c):PC Tryz.prog gl 41 [bW c] (fun v=>v=bW c):=
 aHc c h.hi (fun v hv=>⟨(h.vo v hv).hi,(h.vo v hv).ev⟩) h.lo (fun v hv=>(h.vo v hv).lo)
def iZ (q:Nat) (cs:List (List Vo)) (j0 j:Nat):List AV:=[if j=j0 then .msl q 0 (cs.getD j []).length 1 else bW (cs.getD j [])]
theorem vJ {f:Nat→Option Nat} {q q':Nat} (h:f q=some q') (vs:List (List Vo)) (j0 j:Nat):(iZ q vs j0 j).map (AV.ren f)=iZ q' vs j0 j:=by
 by_cases hj:j=j0
 ·simp [iZ,hj,AV.ren,h]
 ·simp [iZ,hj,AV.ren,bW]
theorem aCz {f:Nat→Option Nat} {q q':Nat} (vs:List (List Vo)) (j0 j:Nat) (h:j≠j0):(iZ q vs j0 j).map (AV.ren f)=iZ q' vs j0 j:=by
 simp [iZ,h,AV.ren,bW]
theorem xC {n q:Nat} {vs:List (List Vo)} {j0 i:Nat}:(aS (iZ q vs j0) i).map (AV.ren (up n))=aS (iZ (q+n) vs j0) i:=dK i fun j _=>vJ (f:=up n) (q:=q) (q':=q+n) rfl vs j0 j
def La (q r:Nat) (cs:List (List Vo)) (j0 v0 i:Nat):List (Nat×List AV):=if j0<i then [(q,aS (jI r (cs.getD j0 []) v0) (cs.getD j0 []).length),(r,((cs.getD j0 []).getD v0 ⟨[]⟩).l.flatMap Ev.cells)] else []
set_option maxRecDepth 100000 in
theorem aHh (vs:List (List Vo)) (hl:vs.length≤1000000) (hs: ∀c∈vs,wH c) (j0 v0:Nat) (hj:j0<vs.length) (hv0:v0< (vs.getD j0 []).length):
    Own Tryz.prog gl 40 [.sl 1 (vs.map bW) .none,.fn 41 [] []] (.msl 0 0 vs.length 1) [(0,aS (iZ 1 vs j0) vs.length),(1,aS (jI 2 (vs.getD j0 []) v0) (vs.getD j0 []).length),(2,((vs.getD j0 []).getD v0 ⟨[]⟩).l.flatMap Ev.cells)] 3:=by
  (refine Own.intro 2 mix names (fn:=Tryz.f40) Tryz.func40 rfl fun F hF hro W=>?_;simp -implicitDefEqProofs only[Tryz.ntmps40,Tryz.results40,aI,Nat.reduceAdd,Nat.reduceSub])
  repeat' (simp -implicitDefEqProofs (disch:=first|assumption|omega) only[aB,aC,facts,Nat.reduceAdd, *])
  refine jY (jQ 22 [1,5,8,9,10]) 103 vs.length (fun i (_:Unit)=>⟨[.ud,.fn 41 [] [],.ud,.ud,.ud,iR 100 1 i,.ud,.ud,.sl 1 (vs.map bW) .none,.int .i64 (vs.length:Nat),.int .i64 (i:Nat),.ud,.ud,.ud,.ud,.ud,.ud,.ud,.ud,.ud,.ud,.ud],[]⟩) (fun i _=>⟨hC (jF 100 (aS (iZ 101 vs j0) i) i++La 101 102 vs j0 v0 i),103⟩) (fun i _=>i<1000001) ⟨(),by omega,bI 5 [],gK 5 [],dF.of_fit rfl rfl rfl,by simp only[La,if_neg (Nat.not_lt_zero _)];exact aF.nil,rfl,rfl⟩ ?_
  rintro i x hi hi2
  rcases Nat.lt_or_ge i vs.length with hlt|hge
  · have hv:=hs vs[i] (List.getElem_mem hlt)
    have hget:vs.getD i []=vs[i]:=by rw[List.getD_eq_getElem?_getD,List.getElem?_eq_getElem hlt];rfl
    have hpc:=aS2 vs[i] hv
    by_cases hij:i=j0
    · subst hij
      rw[hget] at hv0
      have hown:=aQk vs[i] hv v0 hv0
      have hnlt: ¬i<i:=Nat.lt_irrefl i
      rcases i with _|i
      · simp only[aU,aV,La,if_neg hnlt,List.append_nil,aN]
        repeat' (first
    |simp -implicitDefEqProofs (disch:=first|assumption|omega) only[aB,aC,facts,if_pos,Nat.reduceAdd,Nat.reduceLT,Nat.reduceLeDiff,Int.reduceLE,Int.reduceAdd,fZ,dB,List.flatMap_cons,List.flatMap_nil,AV.cells,true_or,AV.one,Ip,Iq,mW,eU,fC,aJ,aN,fO,uS,wrap_in,List.getElem?_eq_getElem,bW,aX, *]
    |((with_reducible refine aH (fun _=>?_) (fun _=>?_))<;>try omega)
    | ((with_reducible refine aT 41 ?_);refine uY hF hro hown (rfl) ?_))
        refine dM (0) () hlt (by omega) (by omega) (bI 5 [(113,100),(110,101),(111,102)]) (gK 5 [(113,100),(110,101),(111,102)]) (dF.of_fit rfl rfl rfl) ?_ rfl rfl
        simp only[La,if_pos (show 0<0+1 by omega),bM,List.cons_append,List.nil_append,aJ,aN,hget]
        refine aF.cons 113 rfl rfl ?_ (aF.cons 110 rfl rfl (dK _ fun j hj=>nR (f:=bI 5 [(113,100),(110,101),(111,102)]) (q:=111) (q':=102) rfl _ _ j) (aF.cons 111 rfl rfl (fO _) aF.nil))
        rw[eX,vG];simp [iZ,hlt,AV.ren,bI]
      · have hfl:(aS (iZ 101 vs (i+1)) (i+1)).length=(i+1):=by rw[gW (k:=1) (fun _=>rfl)];omega
        simp only[eH,bM,La,if_neg hnlt,List.append_nil,aN,aJ]
        repeat' (first
    |simp -implicitDefEqProofs (disch:=first|assumption|omega) only[aB,aC,facts,if_pos,if_neg,Nat.reduceAdd,Nat.reduceEqDiff,Nat.reduceLT,Nat.reduceLeDiff,fZ,dB,List.flatMap_cons,List.flatMap_nil,AV.cells,AV.one,Ip,Iq,mW,eU,fC,aJ,aN,fO,uS,wrap_in,List.getElem?_eq_getElem,bW,aX, *]
    |((with_reducible refine aH (fun _=>?_) (fun _=>?_))<;>try omega)
    | ((with_reducible refine aT 41 ?_);refine uY hF hro hown (rfl) ?_))
        refine dM (i+1) () hlt (by omega) (by omega) (bI 5 [(113,100),(110,101),(111,102)]) (gK 5 [(113,100),(110,101),(111,102)]) (dF.of_fit rfl rfl rfl) ?_ rfl rfl
        simp only[La,if_pos (show i+1<i+1+1 by omega),bM,List.cons_append,List.nil_append,aJ,aN,hget]
        refine aF.cons 113 rfl rfl ?_ (aF.cons 110 rfl rfl (dK _ fun j hj=>nR (f:=bI 5 [(113,100),(110,101),(111,102)]) (q:=111) (q':=102) rfl _ _ j) (aF.cons 111 rfl rfl (fO _) aF.nil))
        rw[eX (i:=i+1),List.map_append,dK (c':=iZ 101 vs (i+1)) (i+1) fun j hj=>aCz vs (i+1) j (by omega)];simp [iZ,hlt,AV.ren,bI]
    · rcases i with _|i
      · simp only[aU,aV,La,if_neg (Nat.not_lt_zero _),List.append_nil,aN]
        repeat' (first
    |simp -implicitDefEqProofs (disch:=first|assumption|omega) only[aB,aC,facts,if_pos,Nat.reduceAdd,Nat.reduceLT,Nat.reduceLeDiff,Int.reduceLE,Int.reduceAdd,fZ,dB,List.flatMap_cons,List.flatMap_nil,AV.cells,true_or,AV.one,wrap_in,List.getElem?_eq_getElem,bW,aX, *]
    |((with_reducible refine aH (fun _=>?_) (fun _=>?_))<;>try omega)
    | ((with_reducible refine aT 41 ?_);refine PC.useZ hF hpc (rfl) fun v hv=>?_;subst hv))
        refine dM 0 () hlt (by omega) (by omega) (bI 5 [(111,100)]) (gK 5 [(111,100)]) (dF.of_fit rfl rfl rfl) ?_ rfl rfl
        simp only[La,if_neg (show¬j0<0+1 by omega),bM,List.append_nil,aJ,aN]
        refine aF.cons 111 rfl rfl ?_ aF.nil
        rw[eX,vG];simp [iZ,hij,hlt,AV.ren,bW]
      · have hfl:(aS (iZ 101 vs j0) (i+1)).length=(i+1):=by rw[gW (k:=1) (fun _=>rfl)];omega
        by_cases hjl:j0<i+1
        · simp only[eH,bM,La,if_pos hjl,List.cons_append,List.nil_append,aN,aJ]
          repeat' (first
    |simp -implicitDefEqProofs (disch:=first|assumption|omega) only[aB,aC,facts,if_pos,if_neg,Nat.reduceAdd,Nat.reduceEqDiff,Nat.reduceLT,Nat.reduceLeDiff,fZ,dB,List.flatMap_cons,List.flatMap_nil,AV.cells,AV.one,wrap_in,List.getElem?_eq_getElem,bW,aX, *]
    |((with_reducible refine aH (fun _=>?_) (fun _=>?_))<;>try omega)
    | ((with_reducible refine aT 41 ?_);refine PC.useZ hF hpc (rfl) fun v hv=>?_;subst hv))
          refine dM (i+1) () hlt (by omega) (by omega) (bI 5 [(111,100),(101,101),(102,102)]) (gK 5 [(111,100),(101,101),(102,102)]) (dF.of_fit rfl rfl rfl) ?_ rfl rfl
          simp only[La,if_pos (show j0<i+1+1 by omega),bM,List.cons_append,List.nil_append,aJ,aN]
          refine aF.cons 111 rfl rfl ?_ (aF.cons 101 rfl rfl (dK _ fun j hj=>nR (f:=bI 5 [(111,100),(101,101),(102,102)]) (q:=102) (q':=102) rfl _ _ j) (aF.cons 102 rfl rfl (fO _) aF.nil))
          rw[eX (i:=i+1),List.map_append,dK (c':=iZ 101 vs j0) (i+1) fun j hj=>vJ (f:=bI 5 [(111,100),(101,101),(102,102)]) (q:=101) (q':=101) rfl vs j0 j];simp [iZ,hij,hlt,AV.ren,bW]
        · simp only[eH,bM,La,if_neg hjl,List.append_nil,aN,aJ]
          repeat' (first
    |simp -implicitDefEqProofs (disch:=first|assumption|omega) only[aB,aC,facts,if_pos,Nat.reduceAdd,Nat.reduceLT,Nat.reduceLeDiff,fZ,dB,List.flatMap_cons,List.flatMap_nil,AV.cells,AV.one,wrap_in,List.getElem?_eq_getElem,bW,aX, *]
    |((with_reducible refine aH (fun _=>?_) (fun _=>?_))<;>try omega)
    |((with_reducible refine aT 41 ?_);refine PC.useZ hF hpc (rfl) fun v hv=>?_;subst hv))
          refine dM (i+1) () hlt (by omega) (by omega) (bI 5 [(111,100)]) (gK 5 [(111,100)]) (dF.of_fit rfl rfl rfl) ?_ rfl rfl
          simp only[La,if_neg (show¬j0<i+1+1 by omega),bM,List.append_nil,aJ,aN]
          refine aF.cons 111 rfl rfl ?_ aF.nil
          rw[eX (i:=i+1),List.map_append,dK (c':=iZ 101 vs j0) (i+1) fun j hj=>aCz vs j0 j (by omega)];simp [iZ,hij,hlt,AV.ren,bW]
  · have:i=vs.length:=by omega
    subst this
    obtain⟨n,hn⟩: ∃n,vs.length=n+1:=⟨vs.length - 1,by omega⟩
    repeat' (first
    |simp -implicitDefEqProofs (disch:=first|assumption|omega) only[aB,aC,facts,Nat.reduceAdd,aX, *]
    |((with_reducible refine aH (fun _=>?_) (fun _=>?_))<;>try omega))
    refine uI.of [(100,0),(101,1),(102,2)] rfl ?_ rfl
    simp only[La,if_pos (show j0<n+1 by omega),bM,List.cons_append,List.nil_append,aJ,aN]
    refine aF.cons 100 rfl rfl (dK (n+1) fun j hj=>vJ (f:=bI 0 [(100,0),(101,1),(102,2)]) (q:=101) (q':=1) rfl vs j0 j) (aF.cons 101 rfl rfl (dK _ fun j hj=>nR (f:=bI 0 [(100,0),(101,1),(102,2)]) (q:=102) (q':=2) rfl _ _ j) (aF.cons 102 rfl rfl (fO _) aF.nil))
theorem mZ {α:Type} {c:α→AV}: ∀l:List α,(l.flatMap fun v=>[c v])=l.map c
 |[]=>rfl
 |x::l=>by rw[List.flatMap_cons,mZ l];rfl
theorem aRe {sty:Nat→Bool} {hp:Hp} {d key q r:Nat} (vs:List (List Vo)) (j0 v0:Nat) (hj:j0<vs.length) (hv0:v0< (vs.getD j0 []).length) (hs:sty key=false) (hsq:sty q=true) (hk:hp key=some (.cells (aS (iZ q vs j0) vs.length)))
  (hq:hp q=some (.cells (aS (jI r (vs.getD j0 []) v0) (vs.getD j0 []).length))) (hr:hp r=some (.cells (((vs.getD j0 []).getD v0 ⟨[]⟩).l.flatMap Ev.cells))):
  AV.nowS sty hp (d+3) (.msl key 0 vs.length 1)= .sl 1 (vs.map bW) .none:=by
 have hrow:(aS (iZ q vs j0) vs.length).map (AV.nowS sty hp (d+2))=vs.flatMap fun v=>[bW v]:=by
  rw[Ac (c':=fun j=>[bW (vs.getD j [])]) _ fun j hj'=>?_]
  ·exact Nv fun j hj'=>by rw[List.getD_eq_getElem?_getD,List.getElem?_eq_getElem hj'];rfl
  ·by_cases e:j=j0
   ·subst e
    simp only[iZ,if_true,List.map_cons,List.map_nil]
    rw[aQ8 _ v0 hv0 hsq hq hr];rfl
   ·simp only[iZ,if_neg e,List.map_cons,List.map_nil]
    rfl
 refine(pU hk (by decide) hrow (by rw[gW (k:=1) (fun _=>rfl)];omega) (lC (fun _=>rfl) vs)).trans ?_
 rw[hs,Bool.or_false,mZ vs,show(!(Nat.beq 1 1))=false from rfl,yJ vs]
end Go.Proofs.Pv
