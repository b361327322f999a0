/-
Layer 9's reference: is a score small; is what an edit needs small?
Conditions: none but those that each statement names.
-/
import Derived.Test.YtoaofjhadfihjaaGreatDoorC09k
import Derived.Test.YtoaofjhadfihjaaGreatDoorPvV
set_option linter.unusedVariables false
set_option linter.unusedSimpArgs false
set_option maxRecDepth 100000
set_option maxHeartbeats 16000000
namespace Go.Proofs.Pv
open Go Go.Proofs
theorem aR3 {l:List Ev} {i:Nat} (h:i<l.length):l[i]?=some l[i]:=List.getElem?_eq_getElem h
theorem aR4 {l:List Vo} {i:Nat} (h:i<l.length):l[i]?=some l[i]:=List.getElem?_eq_getElem h
theorem aEb {l:List (List Vo)} {i:Nat} (h:i<l.length):l[i]?=some l[i]:=List.getElem?_eq_getElem h
theorem aR5 {l:List (List Dy)} {i:Nat} (h:i<l.length):l[i]?=some l[i]:=List.getElem?_eq_getElem h
theorem aR6 {l:List Ba} {i:Nat} (h:i<l.length):l[i]?=some l[i]:=List.getElem?_eq_getElem h
theorem aR7 {l:List Pa} {i:Nat} (h:i<l.length):l[i]?=some l[i]:=List.getElem?_eq_getElem h
theorem getCs {l:List (List (List Vo))} {i:Nat} (h:i<l.length):l[i]?=some l[i]:=List.getElem?_eq_getElem h
theorem aVq {l:List (List (List Dy))} {i:Nat} (h:i<l.length):l[i]?=some l[i]:=List.getElem?_eq_getElem h
def Gx {α:Type} (n:Nat) (p:α->Bool) (l:List α):Bool:=decide ((l.length:Int)<=(n:Nat)) && l.all p
def upTo {α:Type} (p:α->Bool) (l:List α) (i:Nat):Prop:= ∀j (hj:j<l.length),j<i->p l[j]=true
theorem uC {α:Type} {p:α->Bool} {l:List α}:upTo p l 0:=fun j _ h=>absurd h (Nat.not_lt_zero j)
theorem uD {α:Type} {p:α->Bool} {l:List α} {i:Nat} (h:upTo p l i) (hi:i<l.length) (hp:p l[i]=true):upTo p l (i+1):=fun j hj hji=>by
 rcases Nat.lt_or_ge j i with h1|h1
 ·exact h j hj h1
 ·have:j=i:=by omega
  subst this;exact hp
theorem Gy {α:Type} {p:α->Bool} {l:List α} {i:Nat} (hi:i<l.length) (h:p l[i]=false):l.all p=false:=by
 rw[List.all_eq_false]
 exact⟨l[i],List.getElem_mem hi,by simp [h]⟩
theorem Gz {α:Type} {p:α->Bool} {l:List α} {i:Nat} (hi:l.length<=i) (hQ:upTo p l i):l.all p=true:=by
 rw[List.all_eq_true]
 intro x hx
 obtain⟨j,hj,rfl⟩:=List.mem_iff_getElem.1 hx
 exact hQ j hj (by omega)
theorem Ha {α:Type} {n:Nat} {p:α->Bool} {l:List α} {i:Nat} (hi:i<l.length) (h:p l[i]=false):Gx n p l=false:=by
 simp [Gx,Gy hi h]
theorem Aj {α:Type} {n:Nat} {p:α->Bool} {l:List α} {i:Nat} (hi:l.length<=i\/n<i) (hQ:upTo p l i):Gx n p l=decide ((l.length:Int)<=(n:Nat)):=by
 by_cases h:l.length<=n
 ·simp [Gx,Gz (i:=i) (by omega) hQ]
 ·have: ¬((l.length:Int)<=(n:Nat)):=by omega
  simp [Gx,this]
def Ev.fewB (e:Ev):Bool:=decide ((e.pitches.length:Int)<=20) && (decide ((e.ties.length:Int)<=20) && (decide ((e.marks.length:Int)<=20) && decide ((e.word.size:Int)<=100)))
theorem aTo (e:Ev):PC Tryz.prog gl 30 [e.av] (fun v=>v= .bool e.fewB):=by
 (refine PC.introZ 1 mix (fn:=Tryz.f30) Tryz.func30 rfl (names 30 _ Tryz.func30) fun F hF hro W=>?_;simp only[Tryz.ntmps30,Tryz.results30,aJ,Nat.reduceAdd,Nat.reduceSub])
 repeat' (first
  |simp -implicitDefEqProofs only[↓reduceIte,aA,aC,facts,Nat.reduceAdd,Nat.reduceLeDiff,Ev.av, *]
  |((with_reducible refine jO (fun _=>?_) (fun _=>?_))<;>try omega))
 all_goals first|grind[Ev.fewB]|(simp_all [Ev.fewB];done)|(simp [Ev.fewB, *];omega)
def zU (l:List Ev):Bool:=Gx 12 Ev.fewB l
theorem aCv (l:List Ev):PC Tryz.prog gl 15 [.sl 9 (l.map Ev.av) .none] (fun v=>v= .bool (zU l)):=by
 (refine PC.introZ 2 mix (fn:=Tryz.f15) Tryz.func15 rfl (names 15 _ Tryz.func15) fun F hF hro W=>?_;simp only[Tryz.ntmps15,Tryz.results15,aJ,Nat.reduceAdd,Nat.reduceSub])
 repeat' (simp -implicitDefEqProofs only[aA,aC,Nat.reduceAdd, *])
 refine lZ (fE 23 [0,3]) [] 100 13 (fun i (_:Unit)=>⟨[.sl 9 (l.map Ev.av) .none,.ud,.ud,.int .i64 (i:Nat),.ud,.ud,.ud,.ud,.ud,.ud,.ud,.ud,.ud,.ud,.ud,.ud,.ud,.ud,.ud,.ud,.ud,.ud,.ud],[]⟩) (fun _ _=>⟨[],100⟩) (fun i _=>upTo Ev.fewB l i) () uC rfl rfl ?_
 rintro i x hi hQ
 repeat' (first
  |simp -implicitDefEqProofs only[↓reduceIte,aA,aC,facts,Nat.reduceAdd, *]
  |simp -implicitDefEqProofs (disch:=first|assumption|omega) only[aA,aC,facts,if_pos,Nat.reduceAdd,wrap_in,aR3,Ev.av, *]
  |((with_reducible refine aF (fun _=>?_) (fun _=>?_))<;>try omega)
  |((with_reducible refine dS (fun _=>?_) (fun _=>?_))<;>try omega)
  |((with_reducible refine jO (fun _=>?_) (fun _=>?_))<;>try omega)
  |((with_reducible refine aS 30 ?_);refine PC.useZ hF (aTo _) (rfl) fun v hv=>?_;subst hv))
 ·rename_i h1 h2 h3
  exact kL () (by omega) (uD hQ (by omega) h3) rfl rfl
 ·rename_i h1 h2 h3
  rw[zU,Ha (by omega) h3]
 ·rename_i h1 h2
  rw[zU,Aj (.inr (by omega)) hQ];rfl
 ·rename_i h1
  rw[zU,Aj (.inl (by omega)) hQ];rfl
def Vs (d:List Dy):Bool:=!decide ((12:Int)< (d.length:Int))
def He (l:List (List Dy)):Bool:=Gx 6 Vs l
theorem aCw (l:List (List Dy)):PC Tryz.prog gl 14 [.sl 1 (l.map eP) .none] (fun v=>v= .bool (He l)):=by
 (refine PC.introZ 2 mix (fn:=Tryz.f14) Tryz.func14 rfl (names 14 _ Tryz.func14) fun F hF hro W=>?_;simp only[Tryz.ntmps14,Tryz.results14,aJ,Nat.reduceAdd,Nat.reduceSub])
 repeat' (simp -implicitDefEqProofs only[aA,aC,Nat.reduceAdd, *])
 refine lZ (fE 23 [0,3]) [] 100 7 (fun i (_:Unit)=>⟨[.sl 1 (l.map eP) .none,.ud,.ud,.int .i64 (i:Nat),.ud,.ud,.ud,.ud,.ud,.ud,.ud,.ud,.ud,.ud,.ud,.ud,.ud,.ud,.ud,.ud,.ud,.ud,.ud],[]⟩) (fun _ _=>⟨[],100⟩) (fun i _=>upTo Vs l i) () uC rfl rfl ?_
 rintro i x hi hQ
 repeat' (first
  |simp -implicitDefEqProofs only[↓reduceIte,aA,aC,facts,Nat.reduceAdd, *]
  |simp -implicitDefEqProofs (disch:=first|assumption|omega) only[aA,aC,facts,Nat.reduceAdd,wrap_in,aR5,eP, *]
  |((with_reducible refine aF (fun _=>?_) (fun _=>?_))<;>try omega)
  |((with_reducible refine jO (fun _=>?_) (fun _=>?_))<;>try omega))
 all_goals first
  |(rw[He,Ha (i:=i) (by omega) (by simp only[Vs,Bool.not_eq_true',Bool.not_eq_false',Bool.or_eq_true,Bool.or_eq_false_iff,Bool.and_eq_true,decide_eq_true_eq,decide_eq_false_iff_not];omega)])
  |(rw[He,Aj (i:=i) (by omega) hQ];rfl)
  |exact kL () (by omega) (uD hQ (by omega) (by simp only[Vs,Bool.not_eq_true',Bool.not_eq_false',Bool.or_eq_true,Bool.or_eq_false_iff,Bool.and_eq_true,decide_eq_true_eq,decide_eq_false_iff_not];omega)) rfl rfl
def Ba.fewB (b:Ba):Bool:=!(decide ((12:Int)< (b.meter.groups.length:Int))||(decide ((12:Int)< (b.turn.endings.length:Int))||decide ((12:Int)< (b.tempos.length:Int))))
def Tf (l:List Ba):Bool:=Gx 6 Ba.fewB l
theorem aCx (l:List Ba):PC Tryz.prog gl 12 [.sl 14 (l.map Ba.av) .none] (fun v=>v= .bool (Tf l)):=by
 (refine PC.introZ 2 mix (fn:=Tryz.f12) Tryz.func12 rfl (names 12 _ Tryz.func12) fun F hF hro W=>?_;simp only[Tryz.ntmps12,Tryz.results12,aJ,Nat.reduceAdd,Nat.reduceSub])
 repeat' (simp -implicitDefEqProofs only[aA,aC,Nat.reduceAdd, *])
 refine lZ (fE 44 [0,3]) [] 100 7 (fun i (_:Unit)=>⟨[.sl 14 (l.map Ba.av) .none,.ud,.ud,.int .i64 (i:Nat),.ud,.ud,.ud,.ud,.ud,.ud,.ud,.ud,.ud,.ud,.ud,.ud,.ud,.ud,.ud,.ud,.ud,.ud,.ud,.ud,.ud,.ud,.ud,.ud,.ud,.ud,.ud,.ud,.ud,.ud,.ud,.ud,.ud,.ud,.ud,.ud,.ud,.ud,.ud,.ud],[]⟩) (fun _ _=>⟨[],100⟩) (fun i _=>upTo Ba.fewB l i) () uC rfl rfl ?_
 rintro i x hi hQ
 repeat' (first
  |simp -implicitDefEqProofs only[↓reduceIte,aA,aC,facts,Nat.reduceAdd, *]
  |simp -implicitDefEqProofs (disch:=first|assumption|omega) only[aA,aC,facts,Nat.reduceAdd,Nat.reduceEqDiff,Nat.reduceLT,Nat.reduceLeDiff,wrap_in,aR6,Ba.av, *]
  |((with_reducible refine aF (fun _=>?_) (fun _=>?_))<;>try omega)
  |((with_reducible refine iP (fun _=>?_) (fun _=>?_))<;>try omega)
  |((with_reducible refine jO (fun _=>?_) (fun _=>?_))<;>try omega))
 all_goals first
  |(rw[Tf,Ha (i:=i) (by omega) (by simp only[Ba.fewB,Bool.not_eq_true',Bool.not_eq_false',Bool.or_eq_true,Bool.or_eq_false_iff,Bool.and_eq_true,decide_eq_true_eq,decide_eq_false_iff_not];omega)])
  |(rw[Tf,Aj (i:=i) (by omega) hQ];rfl)
  |exact kL () (by omega) (uD hQ (by omega) (by simp only[Ba.fewB,Bool.not_eq_true',Bool.not_eq_false',Bool.or_eq_true,Bool.or_eq_false_iff,Bool.and_eq_true,decide_eq_true_eq,decide_eq_false_iff_not];omega)) rfl rfl
def Je (c:List Vo):Bool:=!decide ((4:Int)< (c.length:Int)) && c.all fun v=>zU v.l
def zV (l:List (List Vo)):Bool:=Gx 6 Je l
theorem aCy (l:List (List Vo)):PC Tryz.prog gl 13 [.sl 1 (l.map bU) .none] (fun v=>v= .bool (zV l)):=by
  (refine PC.introZ 2 mix (fn:=Tryz.f13) Tryz.func13 rfl (names 13 _ Tryz.func13) fun F hF hro W=>?_;simp only[Tryz.ntmps13,Tryz.results13,aJ,Nat.reduceAdd,Nat.reduceSub])
  repeat' (simp -implicitDefEqProofs only[aA,aC,Nat.reduceAdd, *])
  refine lZ (fE 43 [0,3]) [] 100 7 (fun i (_:Unit)=>⟨[.sl 1 (l.map bU) .none,.ud,.ud,.int .i64 (i:Nat),.ud,.ud,.ud,.ud,.ud,.ud,.ud,.ud,.ud,.ud,.ud,.ud,.ud,.ud,.ud,.ud,.ud,.ud,.ud,.ud,.ud,.ud,.ud,.ud,.ud,.ud,.ud,.ud,.ud,.ud,.ud,.ud,.ud,.ud,.ud,.ud,.ud,.ud,.ud],[]⟩) (fun _ _=>⟨[],100⟩) (fun i _=>upTo Je l i) () uC rfl rfl ?_
  rintro i x hi hQ
  repeat' (first
    |simp -implicitDefEqProofs only[↓reduceIte,aA,aC,facts,Nat.reduceAdd, *]
    |simp -implicitDefEqProofs (disch:=first|assumption|omega) only[aA,aC,facts,Nat.reduceAdd,aEb,bU, *]
    |((with_reducible refine aF (fun _=>?_) (fun _=>?_))<;>try omega)
    |((with_reducible refine jO (fun _=>?_) (fun _=>?_))<;>try omega))
  · rename_i h1 h2 h3
    rw[zV,Ha (i:=i) (by omega) (by simp [Je,h3])]
  · rename_i h1 h2 h3
    have hi':i<l.length:=by omega
    refine lZ (fE 43 [0,3,4]) [] 200 l[i].length (fun k (_:Unit)=>⟨[.sl 1 (l.map bU) .none,.ud,.ud,.int .i64 (i:Nat),.int .i64 (k:Nat),.ud,.ud,.ud,.ud,.ud,.ud,.ud,.ud,.ud,.ud,.ud,.ud,.ud,.ud,.ud,.ud,.ud,.ud,.ud,.ud,.ud,.ud,.ud,.ud,.ud,.ud,.ud,.ud,.ud,.ud,.ud,.ud,.ud,.ud,.ud,.ud,.ud,.ud],[]⟩) (fun _ _=>⟨[],200⟩) (fun k _=>upTo (fun v:Vo=>zU v.l) l[i] k) () uC rfl rfl ?_
    rintro k y hk hQ2
    by_cases hkl:k<l[i].length
    · repeat' (first
    |simp -implicitDefEqProofs only[↓reduceIte,aA,aC,facts,Nat.reduceAdd,aEb,aR4,bU,Vo.av, *]
    |simp -implicitDefEqProofs (disch:=first|assumption|omega) only[wrap_in, *]
    |((with_reducible refine aF (fun _=>?_) (fun _=>?_))<;>try omega)
    |((with_reducible refine dS (fun _=>?_) (fun _=>?_))<;>try omega)
    | ((with_reducible refine aS 15 ?_);refine PC.useZ hF (aCv _) (rfl) fun v hv=>?_;subst hv))
      · rename_i h4
        exact kL () hkl (uD hQ2 hkl h4) rfl rfl
      · rename_i h4
        rw[zV,Ha (i:=i) hi' (by rw[Je,Gy (p:=fun v:Vo=>zU v.l) hkl h4,Bool.and_false])]
    · repeat' (first
    |simp -implicitDefEqProofs only[↓reduceIte,aA,aC,facts,Nat.reduceAdd,aEb,bU, *]
    |simp -implicitDefEqProofs (disch:=first|assumption|omega) only[wrap_in, *]
    | ((with_reducible refine aF (fun _=>?_) (fun _=>?_))<;>try omega))
      have hall:=Gz (i:=k) (by omega) hQ2
      exact kL () (by omega) (uD hQ hi' (by rw[Je,hall,Bool.and_true];simp only[Bool.not_eq_true',decide_eq_false_iff_not];omega)) rfl rfl
  · rename_i h1 h2
    rw[zV,Aj (.inr (by omega)) hQ];rfl
  · rename_i h1
    rw[zV,Aj (.inl (by omega)) hQ];rfl
def Pa.fewB (p:Pa):Bool:=!decide ((100:Int)< (p.name.size:Int)) && (zV p.cells && He p.dyns)
def Sc.fewB (s:Sc):Bool:=(!decide ((6:Int)< (s.bars.length:Int)) && (!decide ((4:Int)< (s.parts.length:Int)) && (!decide ((100:Int)< (s.title.size:Int)) && Tf s.bars))) && s.parts.all Pa.fewB
theorem aFd (s:Sc):PC Tryz.prog gl 5 [s.av] (fun v=>v= .bool s.fewB):=by
 (refine PC.introZ 2 mix (fn:=Tryz.f5) Tryz.func5 rfl (names 5 _ Tryz.func5) fun F hF hro W=>?_;simp only[Tryz.ntmps5,Tryz.results5,aJ,Nat.reduceAdd,Nat.reduceSub])
 repeat' (first
  |simp -implicitDefEqProofs only[↓reduceIte,aA,aC,facts,Nat.reduceAdd,Nat.reduceLeDiff,Sc.av, *]
  |((with_reducible refine dS (fun _=>?_) (fun _=>?_))<;>try omega)
  |((with_reducible refine iP (fun _=>?_) (fun _=>?_))<;>try omega)
  |((with_reducible refine aS 12 ?_);refine PC.useZ hF (aCx _) (rfl) fun v hv=>?_;subst hv))
 all_goals first
  |grind[Sc.fewB]
  |skip
 refine lZ (fE 55 [1,3]) [] 100 s.parts.length (fun i (_:Unit)=>⟨[.ud,.ptr 0 0,.ud,.int .i64 (i:Nat),.ud,.ud,.ud,.ud,.ud,.ud,.ud,.ud,.ud,.ud,.ud,.ud,.ud,.ud,.ud,.ud,.ud,.ud,.ud,.ud,.ud,.ud,.ud,.ud,.ud,.ud,.ud,.ud,.ud,.ud,.ud,.ud,.ud,.ud,.ud,.ud,.ud,.ud,.ud,.ud,.ud,.ud,.ud,.ud,.ud,.ud,.ud,.ud,.ud,.ud,.ud],[]⟩) (fun _ _=>⟨[(0,.cells [.str s.title,.sl 14 (s.bars.map Ba.av) .none,.sl 5 (s.parts.map Pa.av) .none])],100⟩) (fun i _=>upTo Pa.fewB s.parts i) () uC rfl rfl ?_
 rintro i x hi hQ
 by_cases hil:i<s.parts.length
 ·repeat' (first
  |simp -implicitDefEqProofs only[↓reduceIte,aA,aC,facts,Nat.reduceAdd,Nat.reduceEqDiff,Nat.reduceLeDiff,aR7,Pa.av, *]
  |simp -implicitDefEqProofs (disch:=first|assumption|omega) only[wrap_in, *]
  |((with_reducible refine aF (fun _=>?_) (fun _=>?_))<;>try omega)
  |((with_reducible refine dS (fun _=>?_) (fun _=>?_))<;>try omega)
  |((with_reducible refine iP (fun _=>?_) (fun _=>?_))<;>try omega)
  |((with_reducible refine jV (fun _=>?_) (fun _=>?_))<;>try omega)
  |((with_reducible refine aS 13 ?_);refine PC.useZ hF (aCy _) (rfl) fun v hv=>?_;subst hv)
  |((with_reducible refine aS 14 ?_);refine PC.useZ hF (aCw _) (rfl) fun v hv=>?_;subst hv))
  all_goals first
   |(rw[Sc.fewB,Gy (p:=Pa.fewB) hil (by grind[Pa.fewB]),Bool.and_false])
   |exact kL () hil (uD hQ hil (by grind[Pa.fewB])) rfl rfl
 ·repeat' (first
  |simp -implicitDefEqProofs only[↓reduceIte,aA,aC,facts,Nat.reduceAdd,Nat.reduceLeDiff, *]
  |((with_reducible refine aF (fun _=>?_) (fun _=>?_))<;>try omega))
  have hall:=Gz (i:=i) (by omega) hQ
  grind[Sc.fewB]
def aH.fewB (o:aH):Bool:=(!decide ((100:Int)< (o.text.size:Int)) && (!decide ((4:Int)< (o.cells.length:Int)) && (!decide ((4:Int)< (o.dyns.length:Int)) && (Tf o.bars && zU o.events)))) && (o.cells.all zV && o.dyns.all He)
theorem Xw (o:aH):PC Tryz.prog gl 6 [o.av] (fun v=>v= .bool o.fewB):=by
  (refine PC.introZ 2 mix (fn:=Tryz.f6) Tryz.func6 rfl (names 6 _ Tryz.func6) fun F hF hro W=>?_;simp only[Tryz.ntmps6,Tryz.results6,aJ,Nat.reduceAdd,Nat.reduceSub])
  repeat' (first
    |simp -implicitDefEqProofs only[↓reduceIte,aA,aC,facts,Nat.reduceAdd,Nat.reduceLeDiff,aH.av, *]
    |((with_reducible refine dS (fun _=>?_) (fun _=>?_))<;>try omega)
    |((with_reducible refine iP (fun _=>?_) (fun _=>?_))<;>try omega)
    |((with_reducible refine jV (fun _=>?_) (fun _=>?_))<;>try omega)
    |((with_reducible refine aS 12 ?_);refine PC.useZ hF (aCx _) (rfl) fun v hv=>?_;subst hv)
    |((with_reducible refine aS 15 ?_);refine PC.useZ hF (aCv _) (rfl) fun v hv=>?_;subst hv))
  all_goals first
    |grind[aH.fewB]
    |skip
  refine lZ (fE 61 [1,3]) [] 100 o.cells.length (fun i (_:Unit)=>⟨[.ud,.ptr 0 0,.ud,.int .i64 (i:Nat),.ud,.ud,.ud,.ud,.ud,.ud,.ud,.ud,.ud,.ud,.ud,.ud,.ud,.ud,.ud,.ud,.ud,.ud,.ud,.ud,.ud,.ud,.ud,.ud,.ud,.ud,.ud,.ud,.ud,.ud,.ud,.ud,.ud,.ud,.ud,.ud,.ud,.ud,.ud,.ud,.ud,.ud,.ud,.ud,.ud,.ud,.ud,.ud,.ud,.ud,.ud,.ud,.ud,.ud,.ud,.ud,.ud],[]⟩) (fun _ _=>⟨[(0,.cells o.cells13)],100⟩) (fun i _=>upTo zV o.cells i) () uC rfl rfl ?_
  rintro i x hi hQ
  by_cases hil:i<o.cells.length
  · repeat' (first
    |simp -implicitDefEqProofs only[↓reduceIte,aA,aC,facts,Nat.reduceAdd,Nat.reduceLeDiff,getCs,aH.cells13,dM, *]
    |simp -implicitDefEqProofs (disch:=first|assumption|omega) only[wrap_in, *]
    |((with_reducible refine aF (fun _=>?_) (fun _=>?_))<;>try omega)
    |((with_reducible refine dS (fun _=>?_) (fun _=>?_))<;>try omega)
    |((with_reducible refine aS 13 ?_);refine PC.useZ hF (aCy _) (rfl) fun v hv=>?_;subst hv))
    all_goals first
      |(rw[aH.fewB,Gy (p:=zV) hil (by assumption),Bool.false_and,Bool.and_false])
      |exact kL () hil (uD hQ hil (by assumption)) rfl rfl
  · repeat' (first
    |simp -implicitDefEqProofs only[↓reduceIte,aA,aC,facts,Nat.reduceAdd,Nat.reduceLeDiff,aH.cells13, *]
    |((with_reducible refine aF (fun _=>?_) (fun _=>?_))<;>try omega))
    refine lZ (fE 61 [1,4]) [] 200 o.dyns.length (fun i (_:Unit)=>⟨[.ud,.ptr 0 0,.ud,.ud,.int .i64 (i:Nat),.ud,.ud,.ud,.ud,.ud,.ud,.ud,.ud,.ud,.ud,.ud,.ud,.ud,.ud,.ud,.ud,.ud,.ud,.ud,.ud,.ud,.ud,.ud,.ud,.ud,.ud,.ud,.ud,.ud,.ud,.ud,.ud,.ud,.ud,.ud,.ud,.ud,.ud,.ud,.ud,.ud,.ud,.ud,.ud,.ud,.ud,.ud,.ud,.ud,.ud,.ud,.ud,.ud,.ud,.ud,.ud],[]⟩) (fun _ _=>⟨[(0,.cells o.cells13)],200⟩) (fun i _=>upTo He o.dyns i) () uC rfl rfl ?_
    rintro k y hk hQ2
    by_cases hkl:k<o.dyns.length
    · repeat' (first
    |simp -implicitDefEqProofs only[↓reduceIte,aA,aC,facts,Nat.reduceAdd,Nat.reduceLeDiff,aVq,aH.cells13,dV, *]
    |simp -implicitDefEqProofs (disch:=first|assumption|omega) only[wrap_in, *]
    |((with_reducible refine aF (fun _=>?_) (fun _=>?_))<;>try omega)
    |((with_reducible refine dS (fun _=>?_) (fun _=>?_))<;>try omega)
    | ((with_reducible refine aS 14 ?_);refine PC.useZ hF (aCw _) (rfl) fun v hv=>?_;subst hv))
      all_goals first
        |(rw[aH.fewB,Gy (p:=He) hkl (by assumption),Bool.and_false,Bool.and_false])
        |exact kL () hkl (uD hQ2 hkl (by assumption)) rfl rfl
    · repeat' (first
    |simp -implicitDefEqProofs only[↓reduceIte,aA,aC,facts,Nat.reduceAdd,Nat.reduceLeDiff,aH.cells13, *]
    | ((with_reducible refine aF (fun _=>?_) (fun _=>?_))<;>try omega))
      have hall:=Gz (i:=i) (by omega) hQ
      have hall2:=Gz (i:=k) (by omega) hQ2
      grind[aH.fewB]
theorem getPi {l:List Pi} {i:Nat} (h:i<l.length):l[i]?=some l[i]:=List.getElem?_eq_getElem h
theorem getBo {l:List Bool} {i:Nat} (h:i<l.length):l[i]?=some l[i]:=List.getElem?_eq_getElem h
theorem aKw {l:List Int} {i:Nat} (h:i<l.length):l[i]?=some l[i]:=List.getElem?_eq_getElem h
theorem getTe {l:List Te} {i:Nat} (h:i<l.length):l[i]?=some l[i]:=List.getElem?_eq_getElem h
theorem getDy {l:List Dy} {i:Nat} (h:i<l.length):l[i]?=some l[i]:=List.getElem?_eq_getElem h
theorem aQr (a:Me) (h:a.groups.length<=1000000):PC Tryz.prog gl 66 [a.av,a.av] (fun v=>v= .bool true):=by
 (refine PC.introZ 2 mix (fn:=Tryz.f66) Tryz.func66 rfl (names 66 _ Tryz.func66) fun F hF hro W=>?_;simp only[Tryz.ntmps66,Tryz.results66,aJ,Nat.reduceAdd,Nat.reduceSub])
 repeat' (simp -implicitDefEqProofs only[↓reduceIte,aA,aC,facts,Nat.reduceAdd,Nat.reduceEqDiff,Nat.reduceLeDiff,Me.av,bne_self_eq_false, *])
 refine lZ (fE 45 [2,3,5]) [] 100 a.groups.length (fun i (_:Unit)=>⟨[.ud,.ud,.ptr 0 0,.ptr 1 0,.ud,.int .i64 (i:Nat),.ud,.ud,.ud,.ud,.ud,.ud,.ud,.ud,.ud,.ud,.ud,.ud,.ud,.ud,.ud,.ud,.ud,.ud,.ud,.ud,.ud,.ud,.ud,.ud,.ud,.ud,.ud,.ud,.ud,.ud,.ud,.ud,.ud,.ud,.ud,.ud,.ud,.ud,.ud],[]⟩) (fun _ _=>⟨[(1,.cells [.int .i64 a.num,.int .i64 a.den,.sl 1 (a.groups.map (AV.int .i64)) .none]),(0,.cells [.int .i64 a.num,.int .i64 a.den,.sl 1 (a.groups.map (AV.int .i64)) .none])],100⟩) (fun i _=>i<=a.groups.length) () (Nat.zero_le _) rfl rfl ?_
 rintro i x hi -
 by_cases hil:i<a.groups.length
 ·repeat' (first
  |simp -implicitDefEqProofs only[↓reduceIte,aA,aC,facts,Nat.reduceAdd,Nat.reduceEqDiff,Nat.reduceLeDiff,aKw,bne_self_eq_false, *]
  |simp -implicitDefEqProofs (disch:=first|assumption|omega) only[wrap_in, *]
  |((with_reducible refine aF (fun _=>?_) (fun _=>?_))<;>try omega)
  |((with_reducible refine aO ?_);refine kG _ rfl (by decide+kernel) ?_))
  exact kL () hil (by omega) rfl rfl
 ·repeat' (first
  |simp -implicitDefEqProofs only[↓reduceIte,aA,aC,facts,Nat.reduceAdd,Nat.reduceEqDiff,Nat.reduceLeDiff, *]
  |((with_reducible refine aF (fun _=>?_) (fun _=>?_))<;>try omega))
theorem aQs (a:Ev) (h:a.short):PC Tryz.prog gl 132 [a.av,a.av] (fun v=>v= .bool true):=by
  obtain⟨h1,h2,h3⟩:=h
  (refine PC.introZ 2 mix (fn:=Tryz.f132) Tryz.func132 rfl (names 132 _ Tryz.func132) fun F hF hro W=>?_;simp only[Tryz.ntmps132,Tryz.results132,aJ,Nat.reduceAdd,Nat.reduceSub])
  repeat' (simp -implicitDefEqProofs only[↓reduceIte,aA,aC,facts,Nat.reduceAdd,Nat.reduceEqDiff,Nat.reduceLeDiff,Ev.av,bne_self_eq_false, *])
  refine lZ (fE 108 [2,3,5]) [] 100 a.pitches.length (fun i (_:Unit)=>⟨[.ud,.ud,.ptr 0 0,.ptr 1 0,.ud,.int .i64 (i:Nat),.ud,.ud,.ud,.ud,.ud,.ud,.ud,.ud,.ud,.ud,.ud,.ud,.ud,.ud,.ud,.ud,.ud,.ud,.ud,.ud,.ud,.ud,.ud,.ud,.ud,.ud,.ud,.ud,.ud,.ud,.ud,.ud,.ud,.ud,.ud,.ud,.ud,.ud,.ud,.ud,.ud,.ud,.ud,.ud,.ud,.ud,.ud,.ud,.ud,.ud,.ud,.ud,.ud,.ud,.ud,.ud,.ud,.ud,.ud,.ud,.ud,.ud,.ud,.ud,.ud,.ud,.ud,.ud,.ud,.ud,.ud,.ud,.ud,.ud,.ud,.ud,.ud,.ud,.ud,.ud,.ud,.ud,.ud,.ud,.ud,.ud,.ud,.ud,.ud,.ud,.ud,.ud,.ud,.ud,.ud,.ud,.ud,.ud,.ud,.ud,.ud,.ud],[]⟩) (fun _ _=>⟨[(1,.cells a.cells),(0,.cells a.cells)],100⟩) (fun i _=>i<=a.pitches.length) () (Nat.zero_le _) rfl rfl ?_
  rintro i x hi -
  by_cases hil:i<a.pitches.length
  · repeat' (first
    |simp -implicitDefEqProofs only[↓reduceIte,aA,aC,facts,Nat.reduceAdd,Nat.reduceEqDiff,Nat.reduceLeDiff,getPi,Pi.av,Ev.cells, *]
    |simp -implicitDefEqProofs (disch:=first|assumption|omega) only[wrap_in, *]
    |((with_reducible refine aF (fun _=>?_) (fun _=>?_))<;>try omega)
    |((with_reducible refine aO ?_);refine kG _ rfl (by decide+kernel) ?_))
    exact kL () hil (by omega) rfl rfl
  · repeat' (first
    |simp -implicitDefEqProofs only[↓reduceIte,aA,aC,facts,Nat.reduceAdd,Nat.reduceEqDiff,Nat.reduceLeDiff,Ev.cells, *]
    |((with_reducible refine aF (fun _=>?_) (fun _=>?_))<;>try omega))
    refine lZ (fE 108 [2,3,6]) [] 200 a.ties.length (fun i (_:Unit)=>⟨[.ud,.ud,.ptr 0 0,.ptr 1 0,.ud,.ud,.int .i64 (i:Nat),.ud,.ud,.ud,.ud,.ud,.ud,.ud,.ud,.ud,.ud,.ud,.ud,.ud,.ud,.ud,.ud,.ud,.ud,.ud,.ud,.ud,.ud,.ud,.ud,.ud,.ud,.ud,.ud,.ud,.ud,.ud,.ud,.ud,.ud,.ud,.ud,.ud,.ud,.ud,.ud,.ud,.ud,.ud,.ud,.ud,.ud,.ud,.ud,.ud,.ud,.ud,.ud,.ud,.ud,.ud,.ud,.ud,.ud,.ud,.ud,.ud,.ud,.ud,.ud,.ud,.ud,.ud,.ud,.ud,.ud,.ud,.ud,.ud,.ud,.ud,.ud,.ud,.ud,.ud,.ud,.ud,.ud,.ud,.ud,.ud,.ud,.ud,.ud,.ud,.ud,.ud,.ud,.ud,.ud,.ud,.ud,.ud,.ud,.ud,.ud,.ud],[]⟩) (fun _ _=>⟨[(1,.cells a.cells),(0,.cells a.cells)],200⟩) (fun i _=>i<=a.ties.length) () (Nat.zero_le _) rfl rfl ?_
    rintro j x hj -
    by_cases hjl:j<a.ties.length
    · repeat' (first
    |simp -implicitDefEqProofs only[↓reduceIte,aA,aC,facts,Nat.reduceAdd,Nat.reduceEqDiff,Nat.reduceLeDiff,getBo,Ev.cells, *]
    |simp -implicitDefEqProofs (disch:=first|assumption|omega) only[wrap_in, *]
    |((with_reducible refine aF (fun _=>?_) (fun _=>?_))<;>try omega)
    | ((with_reducible refine aO ?_);refine kG _ rfl (by decide+kernel) ?_))
      exact kL () hjl (by omega) rfl rfl
    · repeat' (first
    |simp -implicitDefEqProofs only[↓reduceIte,aA,aC,facts,Nat.reduceAdd,Nat.reduceEqDiff,Nat.reduceLeDiff,Ev.cells, *]
    | ((with_reducible refine aF (fun _=>?_) (fun _=>?_))<;>try omega))
      refine lZ (fE 108 [2,3,7]) [] 300 a.marks.length (fun i (_:Unit)=>⟨[.ud,.ud,.ptr 0 0,.ptr 1 0,.ud,.ud,.ud,.int .i64 (i:Nat),.ud,.ud,.ud,.ud,.ud,.ud,.ud,.ud,.ud,.ud,.ud,.ud,.ud,.ud,.ud,.ud,.ud,.ud,.ud,.ud,.ud,.ud,.ud,.ud,.ud,.ud,.ud,.ud,.ud,.ud,.ud,.ud,.ud,.ud,.ud,.ud,.ud,.ud,.ud,.ud,.ud,.ud,.ud,.ud,.ud,.ud,.ud,.ud,.ud,.ud,.ud,.ud,.ud,.ud,.ud,.ud,.ud,.ud,.ud,.ud,.ud,.ud,.ud,.ud,.ud,.ud,.ud,.ud,.ud,.ud,.ud,.ud,.ud,.ud,.ud,.ud,.ud,.ud,.ud,.ud,.ud,.ud,.ud,.ud,.ud,.ud,.ud,.ud,.ud,.ud,.ud,.ud,.ud,.ud,.ud,.ud,.ud,.ud,.ud,.ud],[]⟩) (fun _ _=>⟨[(1,.cells a.cells),(0,.cells a.cells)],300⟩) (fun i _=>i<=a.marks.length) () (Nat.zero_le _) rfl rfl ?_
      rintro k x hk -
      by_cases hkl:k<a.marks.length
      · repeat' (first
    |simp -implicitDefEqProofs only[↓reduceIte,aA,aC,facts,Nat.reduceAdd,Nat.reduceEqDiff,Nat.reduceLeDiff,aKw,Ev.cells,bne_self_eq_false, *]
    |simp -implicitDefEqProofs (disch:=first|assumption|omega) only[wrap_in, *]
    |((with_reducible refine aF (fun _=>?_) (fun _=>?_))<;>try omega)
    | ((with_reducible refine aO ?_);refine kG _ rfl (by decide+kernel) ?_))
        exact kL () hkl (by omega) rfl rfl
      · repeat' (first
    |simp -implicitDefEqProofs only[↓reduceIte,aA,aC,facts,Nat.reduceAdd,Nat.reduceEqDiff,Nat.reduceLeDiff,Ev.cells, *]
    |((with_reducible refine aF (fun _=>?_) (fun _=>?_))<;>try omega))
theorem aQt (a:Vo) (h:a.l.length<=1000000) (hs: ∀e∈a.l,e.short):PC Tryz.prog gl 102 [a.av,a.av] (fun v=>v= .bool true):=by
 (refine PC.introZ 2 mix (fn:=Tryz.f102) Tryz.func102 rfl (names 102 _ Tryz.func102) fun F hF hro W=>?_;simp only[Tryz.ntmps102,Tryz.results102,aJ,Nat.reduceAdd,Nat.reduceSub])
 repeat' (simp -implicitDefEqProofs only[↓reduceIte,aA,aC,facts,Nat.reduceAdd,Nat.reduceEqDiff,Vo.av,bne_self_eq_false, *])
 refine lZ (fE 32 [2,3,5]) [] 100 a.l.length (fun i (_:Unit)=>⟨[.ud,.ud,.ptr 0 0,.ptr 1 0,.ud,.int .i64 (i:Nat),.ud,.ud,.ud,.ud,.ud,.ud,.ud,.ud,.ud,.ud,.ud,.ud,.ud,.ud,.ud,.ud,.ud,.ud,.ud,.ud,.ud,.ud,.ud,.ud,.ud,.ud],[]⟩) (fun _ _=>⟨[(1,.cells [.sl 9 (a.l.map Ev.av) .none]),(0,.cells [.sl 9 (a.l.map Ev.av) .none])],100⟩) (fun i _=>i<=a.l.length) () (Nat.zero_le _) rfl rfl ?_
 rintro i x hi -
 by_cases hil:i<a.l.length
 ·repeat' (first
  |simp -implicitDefEqProofs only[↓reduceIte,aA,aC,facts,Nat.reduceAdd,Nat.reduceEqDiff,aR3,Ev.av, *]
  |((with_reducible refine jR 132 ?_);refine dK (aQs a.l[i] (hs _ (List.getElem_mem hil))) (rfl) ?_)
  |simp -implicitDefEqProofs (disch:=first|assumption|omega) only[wrap_in, *]
  |((with_reducible refine aF (fun _=>?_) (fun _=>?_))<;>try omega)
  |((with_reducible refine aO ?_);refine kG _ rfl (by decide+kernel) ?_))
  exact kL () hil (by omega) rfl rfl
 ·repeat' (first
  |simp -implicitDefEqProofs only[↓reduceIte,aA,aC,facts,Nat.reduceAdd,Nat.reduceEqDiff, *]
  |((with_reducible refine aF (fun _=>?_) (fun _=>?_))<;>try omega))
theorem aHh (a:List Vo) (h:a.length<=1000000) (hs: ∀v∈a,v.l.length<=1000000/\ ∀e∈v.l,e.short):PC Tryz.prog gl 67 [(bU a),(bU a)] (fun v=>v= .bool true):=by
 (refine PC.introZ 2 mix (fn:=Tryz.f67) Tryz.func67 rfl (names 67 _ Tryz.func67) fun F hF hro W=>?_;simp only[Tryz.ntmps67,Tryz.results67,aJ,Nat.reduceAdd,Nat.reduceSub])
 repeat' (simp -implicitDefEqProofs only[↓reduceIte,aA,aC,facts,Nat.reduceAdd,bU,bne_self_eq_false, *])
 refine lZ (fE 29 [0,1,5]) [] 100 a.length (fun i (_:Unit)=>⟨[.sl 1 (a.map Vo.av) .none,.sl 1 (a.map Vo.av) .none,.ud,.ud,.ud,.int .i64 (i:Nat),.ud,.ud,.ud,.ud,.ud,.ud,.ud,.ud,.ud,.ud,.ud,.ud,.ud,.ud,.ud,.ud,.ud,.ud,.ud,.ud,.ud,.ud,.ud],[]⟩) (fun _ _=>⟨[],100⟩) (fun i _=>i<=a.length) () (Nat.zero_le _) rfl rfl ?_
 rintro i x hi -
 by_cases hil:i<a.length
 ·repeat' (first
  |simp -implicitDefEqProofs only[↓reduceIte,aA,aC,facts,Nat.reduceAdd,aR4,Vo.av, *]
  |((with_reducible refine jR 102 ?_);refine dK (aQt a[i] (hs _ (List.getElem_mem hil)).1 (hs _ (List.getElem_mem hil)).2) (rfl) ?_)
  |simp -implicitDefEqProofs (disch:=first|assumption|omega) only[wrap_in, *]
  |((with_reducible refine aF (fun _=>?_) (fun _=>?_))<;>try omega)
  |((with_reducible refine aO ?_);refine kG _ rfl (by decide+kernel) ?_))
  exact kL () hil (by omega) rfl rfl
 ·repeat' (first
  |simp -implicitDefEqProofs only[↓reduceIte,aA,aC,facts,Nat.reduceAdd, *]
  |((with_reducible refine aF (fun _=>?_) (fun _=>?_))<;>try omega))
theorem aHi (a:List Dy) (h:a.length<=1000000):PC Tryz.prog gl 68 [(eP a),(eP a)] (fun v=>v= .bool true):=by
 (refine PC.introZ 2 mix (fn:=Tryz.f68) Tryz.func68 rfl (names 68 _ Tryz.func68) fun F hF hro W=>?_;simp only[Tryz.ntmps68,Tryz.results68,aJ,Nat.reduceAdd,Nat.reduceSub])
 repeat' (simp -implicitDefEqProofs only[↓reduceIte,aA,aC,facts,Nat.reduceAdd,eP,bne_self_eq_false, *])
 refine lZ (fE 26 [0,1,5]) [] 100 a.length (fun i (_:Unit)=>⟨[.sl 4 (a.map Dy.av) .none,.sl 4 (a.map Dy.av) .none,.ud,.ud,.ud,.int .i64 (i:Nat),.ud,.ud,.ud,.ud,.ud,.ud,.ud,.ud,.ud,.ud,.ud,.ud,.ud,.ud,.ud,.ud,.ud,.ud,.ud,.ud],[]⟩) (fun _ _=>⟨[],100⟩) (fun i _=>i<=a.length) () (Nat.zero_le _) rfl rfl ?_
 rintro i x hi -
 by_cases hil:i<a.length
 ·repeat' (first
  |simp -implicitDefEqProofs only[↓reduceIte,aA,aC,facts,Nat.reduceAdd,getDy,Dy.av, *]
  |simp -implicitDefEqProofs (disch:=first|assumption|omega) only[wrap_in, *]
  |((with_reducible refine aF (fun _=>?_) (fun _=>?_))<;>try omega)
  |((with_reducible refine aO ?_);refine kG _ rfl (by decide+kernel) ?_))
  exact kL () hil (by omega) rfl rfl
 ·repeat' (first
  |simp -implicitDefEqProofs only[↓reduceIte,aA,aC,facts,Nat.reduceAdd, *]
  |((with_reducible refine aF (fun _=>?_) (fun _=>?_))<;>try omega))
def Ba.cells14u (b:Ba):List AV:=[.int .i64 b.meter.num,.int .i64 b.meter.den,.sl 1 (b.meter.groups.map (AV.int .i64)) .none,.int .i64 b.key.fifths,.bool b.key.minor,
 .bool b.turn.begin_,.int .i64 b.turn.times,.sl 1 (b.turn.endings.map (AV.int .i64)) .none,.bool b.turn.sign,.bool b.turn.coda,.bool b.turn.tocoda,.bool b.turn.fine,.int .i64 b.turn.jump,.sl 4 (b.tempos.map Te.av) .none]
def Tu.cells8u (t:Tu):List AV:=[.bool t.begin_,.int .i64 t.times,.sl 1 (t.endings.map (AV.int .i64)) .none,.bool t.sign,.bool t.coda,.bool t.tocoda,.bool t.fine,.int .i64 t.jump]
theorem aAc (a:Ba) (h:a.short):PC Tryz.prog gl 27 [a.av,a.av] (fun v=>v= .bool true):=by
  obtain⟨h1,h2,h3⟩:=h
  have h5:=aQr a.meter h1
  (refine PC.introZ 2 mix (fn:=Tryz.f27) Tryz.func27 rfl (names 27 _ Tryz.func27) fun F hF hro W=>?_;simp only[Tryz.ntmps27,Tryz.results27,aJ,Nat.reduceAdd,Nat.reduceSub])
  repeat' (first
    |simp -implicitDefEqProofs only[↓reduceIte,aA,aC,facts,Nat.reduceAdd,Nat.reduceEqDiff,Nat.reduceLeDiff,Ba.av,bne_self_eq_false, *]
    |((with_reducible refine aS 66 ?_);refine PC.useZ hF h5 (rfl) fun v hv=>?_;subst hv))
  refine lZ (fE 129 [2,3,5,6,8]) [] 100 a.turn.endings.length (fun i (_:Unit)=>⟨[.ud,.ud,.ptr 0 0,.ptr 1 0,.ud,.ptr 5 0,.ptr 9 0,.ud,.int .i64 (i:Nat),.ud,.ud,.ud,.ud,.ud,.ud,.ud,.ud,.ud,.ud,.ud,.ud,.ud,.ud,.ud,.ud,.ud,.ud,.ud,.ud,.ud,.ud,.ud,.ud,.ud,.ud,.ud,.ud,.ud,.ud,.ud,.ud,.ud,.ud,.ud,.ud,.ud,.ud,.ud,.ud,.ud,.ud,.ud,.ud,.ud,.ud,.ud,.ud,.ud,.ud,.ud,.ud,.ud,.ud,.ud,.ud,.ud,.ud,.ud,.ud,.ud,.ud,.ud,.ud,.ud,.ud,.ud,.ud,.ud,.ud,.ud,.ud,.ud,.ud,.ud,.ud,.ud,.ud,.ud,.ud,.ud,.ud,.ud,.ud,.ud,.ud,.ud,.ud,.ud,.ud,.ud,.ud,.ud,.ud,.ud,.ud,.ud,.ud,.ud,.ud,.ud,.ud,.ud,.ud,.ud,.ud,.ud,.ud,.ud,.ud,.ud,.ud,.ud,.ud,.ud,.ud,.ud,.ud,.ud,.ud],[]⟩) (fun _ _=>⟨[(9,.cells a.turn.cells8u),(5,.cells a.turn.cells8u),(1,.cells a.cells14u),(0,.cells a.cells14u)],100⟩) (fun i _=>i<=a.turn.endings.length) () (Nat.zero_le _) rfl rfl ?_
  rintro i x hi -
  by_cases hil:i<a.turn.endings.length
  · repeat' (first
    |simp -implicitDefEqProofs only[↓reduceIte,aA,aC,facts,Nat.reduceAdd,Nat.reduceEqDiff,Nat.reduceLeDiff,aKw,Tu.cells8u,Ba.cells14u,bne_self_eq_false, *]
    |simp -implicitDefEqProofs (disch:=first|assumption|omega) only[wrap_in, *]
    |((with_reducible refine aF (fun _=>?_) (fun _=>?_))<;>try omega)
    |((with_reducible refine aO ?_);refine kG _ rfl (by decide+kernel) ?_))
    exact kL () hil (by omega) rfl rfl
  · repeat' (first
    |simp -implicitDefEqProofs only[↓reduceIte,aA,aC,facts,Nat.reduceAdd,Nat.reduceEqDiff,Nat.reduceLeDiff,Tu.cells8u,Ba.cells14u, *]
    |((with_reducible refine aF (fun _=>?_) (fun _=>?_))<;>try omega))
    refine lZ (fE 129 [2,3,9]) [] 200 a.tempos.length (fun i (_:Unit)=>⟨[.ud,.ud,.ptr 0 0,.ptr 1 0,.ud,.ud,.ud,.ud,.ud,.int .i64 (i:Nat),.ud,.ud,.ud,.ud,.ud,.ud,.ud,.ud,.ud,.ud,.ud,.ud,.ud,.ud,.ud,.ud,.ud,.ud,.ud,.ud,.ud,.ud,.ud,.ud,.ud,.ud,.ud,.ud,.ud,.ud,.ud,.ud,.ud,.ud,.ud,.ud,.ud,.ud,.ud,.ud,.ud,.ud,.ud,.ud,.ud,.ud,.ud,.ud,.ud,.ud,.ud,.ud,.ud,.ud,.ud,.ud,.ud,.ud,.ud,.ud,.ud,.ud,.ud,.ud,.ud,.ud,.ud,.ud,.ud,.ud,.ud,.ud,.ud,.ud,.ud,.ud,.ud,.ud,.ud,.ud,.ud,.ud,.ud,.ud,.ud,.ud,.ud,.ud,.ud,.ud,.ud,.ud,.ud,.ud,.ud,.ud,.ud,.ud,.ud,.ud,.ud,.ud,.ud,.ud,.ud,.ud,.ud,.ud,.ud,.ud,.ud,.ud,.ud,.ud,.ud,.ud,.ud,.ud,.ud],[]⟩) (fun _ _=>⟨[(9,.cells a.turn.cells8u),(5,.cells a.turn.cells8u),(1,.cells a.cells14u),(0,.cells a.cells14u)],200⟩) (fun i _=>i<=a.tempos.length) () (Nat.zero_le _) rfl rfl ?_
    rintro j x hj -
    by_cases hjl:j<a.tempos.length
    · repeat' (first
    |simp -implicitDefEqProofs only[↓reduceIte,aA,aC,facts,Nat.reduceAdd,Nat.reduceEqDiff,Nat.reduceLeDiff,getTe,Te.av,Tu.cells8u,Ba.cells14u, *]
    |simp -implicitDefEqProofs (disch:=first|assumption|omega) only[wrap_in, *]
    |((with_reducible refine aF (fun _=>?_) (fun _=>?_))<;>try omega)
    | ((with_reducible refine aO ?_);refine kG _ rfl (by decide+kernel) ?_))
      exact kL () hjl (by omega) rfl rfl
    · repeat' (first
    |simp -implicitDefEqProofs only[↓reduceIte,aA,aC,facts,Nat.reduceAdd,Nat.reduceEqDiff,Nat.reduceLeDiff,Tu.cells8u,Ba.cells14u, *]
    |((with_reducible refine aF (fun _=>?_) (fun _=>?_))<;>try omega))
structure Pa.fin (p:Pa):Prop where
 hi:p.cells.length<=1000000
 ce: ∀c∈p.cells,c.length<=1000000/\ ∀v∈c,v.l.length<=1000000/\ ∀e∈v.l,e.short
 dh:p.dyns.length<=1000000
 dy: ∀d∈p.dyns,d.length<=1000000
theorem Pa.good.fin {p:Pa} (h:p.good):p.fin:=⟨h.hi,fun c hc=>⟨(h.ce c hc).hi,fun v hv=>⟨((h.ce c hc).vo v hv).hi,((h.ce c hc).vo v hv).ev⟩⟩,h.dh,h.dy⟩
theorem aHn (a:Pa) (h:a.fin):PC Tryz.prog gl 28 [a.av,a.av] (fun v=>v= .bool true):=by
  obtain⟨h2,h3,h4,h5⟩:=h
  have hc: ∀c∈a.cells,PC Tryz.prog gl 67 [bU c,bU c] (fun v=>v= .bool true):=fun c hc=>aHh c (h3 c hc).1 (h3 c hc).2
  (refine PC.introZ 2 mix (fn:=Tryz.f28) Tryz.func28 rfl (names 28 _ Tryz.func28) fun F hF hro W=>?_;simp only[Tryz.ntmps28,Tryz.results28,aJ,Nat.reduceAdd,Nat.reduceSub])
  repeat' (simp -implicitDefEqProofs only[↓reduceIte,aA,aC,facts,Nat.reduceAdd,Nat.reduceEqDiff,Nat.reduceLeDiff,Pa.av,bne_self_eq_false, *])
  refine lZ (fE 86 [2,3,5]) [] 100 a.cells.length (fun i (_:Unit)=>⟨[.ud,.ud,.ptr 0 0,.ptr 1 0,.ud,.int .i64 (i:Nat),.ud,.ud,.ud,.ud,.ud,.ud,.ud,.ud,.ud,.ud,.ud,.ud,.ud,.ud,.ud,.ud,.ud,.ud,.ud,.ud,.ud,.ud,.ud,.ud,.ud,.ud,.ud,.ud,.ud,.ud,.ud,.ud,.ud,.ud,.ud,.ud,.ud,.ud,.ud,.ud,.ud,.ud,.ud,.ud,.ud,.ud,.ud,.ud,.ud,.ud,.ud,.ud,.ud,.ud,.ud,.ud,.ud,.ud,.ud,.ud,.ud,.ud,.ud,.ud,.ud,.ud,.ud,.ud,.ud,.ud,.ud,.ud,.ud,.ud,.ud,.ud,.ud,.ud,.ud,.ud],[]⟩) (fun _ _=>⟨[(1,.cells a.cells5),(0,.cells a.cells5)],100⟩) (fun i _=>i<=a.cells.length) () (Nat.zero_le _) rfl rfl ?_
  rintro i x hi -
  by_cases hil:i<a.cells.length
  · have hci:=hc _ (List.getElem_mem hil)
    repeat' (first
    |simp -implicitDefEqProofs only[↓reduceIte,aA,aC,facts,Nat.reduceAdd,Nat.reduceEqDiff,Nat.reduceLeDiff,aEb,bU,Pa.cells5, *]
    |((with_reducible refine jR 67 ?_);refine dK hci (rfl) ?_)
    |simp -implicitDefEqProofs (disch:=first|assumption|omega) only[wrap_in, *]
    |((with_reducible refine aF (fun _=>?_) (fun _=>?_))<;>try omega)
    |((with_reducible refine aO ?_);refine kG _ rfl (by decide+kernel) ?_))
    exact kL () hil (by omega) rfl rfl
  · repeat' (first
    |simp -implicitDefEqProofs only[↓reduceIte,aA,aC,facts,Nat.reduceAdd,Nat.reduceEqDiff,Nat.reduceLeDiff,Pa.cells5, *]
    |((with_reducible refine aF (fun _=>?_) (fun _=>?_))<;>try omega))
    refine lZ (fE 86 [2,3,7]) [] 200 a.dyns.length (fun i (_:Unit)=>⟨[.ud,.ud,.ptr 0 0,.ptr 1 0,.ud,.ud,.ud,.int .i64 (i:Nat),.ud,.ud,.ud,.ud,.ud,.ud,.ud,.ud,.ud,.ud,.ud,.ud,.ud,.ud,.ud,.ud,.ud,.ud,.ud,.ud,.ud,.ud,.ud,.ud,.ud,.ud,.ud,.ud,.ud,.ud,.ud,.ud,.ud,.ud,.ud,.ud,.ud,.ud,.ud,.ud,.ud,.ud,.ud,.ud,.ud,.ud,.ud,.ud,.ud,.ud,.ud,.ud,.ud,.ud,.ud,.ud,.ud,.ud,.ud,.ud,.ud,.ud,.ud,.ud,.ud,.ud,.ud,.ud,.ud,.ud,.ud,.ud,.ud,.ud,.ud,.ud,.ud,.ud],[]⟩) (fun _ _=>⟨[(1,.cells a.cells5),(0,.cells a.cells5)],200⟩) (fun i _=>i<=a.dyns.length) () (Nat.zero_le _) rfl rfl ?_
    rintro j x hj -
    by_cases hjl:j<a.dyns.length
    · have hdj:=aHi _ (h5 _ (List.getElem_mem hjl))
      repeat' (first
    |simp -implicitDefEqProofs only[↓reduceIte,aA,aC,facts,Nat.reduceAdd,Nat.reduceEqDiff,Nat.reduceLeDiff,aR5,eP,Pa.cells5, *]
    |((with_reducible refine jR 68 ?_);refine dK hdj (rfl) ?_)
    |simp -implicitDefEqProofs (disch:=first|assumption|omega) only[wrap_in, *]
    |((with_reducible refine aF (fun _=>?_) (fun _=>?_))<;>try omega)
    | ((with_reducible refine aO ?_);refine kG _ rfl (by decide+kernel) ?_))
      exact kL () hjl (by omega) rfl rfl
    · repeat' (first
    |simp -implicitDefEqProofs only[↓reduceIte,aA,aC,facts,Nat.reduceAdd,Nat.reduceEqDiff,Nat.reduceLeDiff,Pa.cells5, *]
    |((with_reducible refine aF (fun _=>?_) (fun _=>?_))<;>try omega))
theorem Wl (a:Sc) (h2:a.parts.length<=1000000) (h3: ∀p∈a.parts,p.fin) (h4:a.bars.length<=1000000) (h5: ∀b∈a.bars,b.short):PC Tryz.prog gl 8 [a.av,a.av] (fun v=>v= .bool true):=by
  (refine PC.introZ 2 mix (fn:=Tryz.f8) Tryz.func8 rfl (names 8 _ Tryz.func8) fun F hF hro W=>?_;simp only[Tryz.ntmps8,Tryz.results8,aJ,Nat.reduceAdd,Nat.reduceSub])
  repeat' (simp -implicitDefEqProofs only[↓reduceIte,aA,aC,facts,Nat.reduceAdd,Nat.reduceEqDiff,Nat.reduceLeDiff,Sc.av,bne_self_eq_false, *])
  refine lZ (fE 72 [2,3,5]) [] 100 a.bars.length (fun i (_:Unit)=>⟨[.ud,.ud,.ptr 0 0,.ptr 1 0,.ud,.int .i64 (i:Nat),.ud,.ud,.ud,.ud,.ud,.ud,.ud,.ud,.ud,.ud,.ud,.ud,.ud,.ud,.ud,.ud,.ud,.ud,.ud,.ud,.ud,.ud,.ud,.ud,.ud,.ud,.ud,.ud,.ud,.ud,.ud,.ud,.ud,.ud,.ud,.ud,.ud,.ud,.ud,.ud,.ud,.ud,.ud,.ud,.ud,.ud,.ud,.ud,.ud,.ud,.ud,.ud,.ud,.ud,.ud,.ud,.ud,.ud,.ud,.ud,.ud,.ud,.ud,.ud,.ud,.ud],[]⟩) (fun _ _=>⟨[(1,.cells [.str a.title,.sl 14 (a.bars.map Ba.av) .none,.sl 5 (a.parts.map Pa.av) .none]),(0,.cells [.str a.title,.sl 14 (a.bars.map Ba.av) .none,.sl 5 (a.parts.map Pa.av) .none])],100⟩) (fun i _=>i<=a.bars.length) () (Nat.zero_le _) rfl rfl ?_
  rintro i x hi -
  by_cases hil:i<a.bars.length
  · have hci:=aAc _ (h5 _ (List.getElem_mem hil))
    repeat' (first
    |simp -implicitDefEqProofs only[↓reduceIte,aA,aC,facts,Nat.reduceAdd,Nat.reduceEqDiff,Nat.reduceLeDiff,aR6,Ba.av, *]
    |((with_reducible refine jR 27 ?_);refine dK hci (rfl) ?_)
    |simp -implicitDefEqProofs (disch:=first|assumption|omega) only[wrap_in, *]
    |((with_reducible refine aF (fun _=>?_) (fun _=>?_))<;>try omega)
    |((with_reducible refine aO ?_);refine kG _ rfl (by decide+kernel) ?_))
    exact kL () hil (by omega) rfl rfl
  · repeat' (first
    |simp -implicitDefEqProofs only[↓reduceIte,aA,aC,facts,Nat.reduceAdd,Nat.reduceEqDiff,Nat.reduceLeDiff, *]
    |((with_reducible refine aF (fun _=>?_) (fun _=>?_))<;>try omega))
    refine lZ (fE 72 [2,3,7]) [] 200 a.parts.length (fun i (_:Unit)=>⟨[.ud,.ud,.ptr 0 0,.ptr 1 0,.ud,.ud,.ud,.int .i64 (i:Nat),.ud,.ud,.ud,.ud,.ud,.ud,.ud,.ud,.ud,.ud,.ud,.ud,.ud,.ud,.ud,.ud,.ud,.ud,.ud,.ud,.ud,.ud,.ud,.ud,.ud,.ud,.ud,.ud,.ud,.ud,.ud,.ud,.ud,.ud,.ud,.ud,.ud,.ud,.ud,.ud,.ud,.ud,.ud,.ud,.ud,.ud,.ud,.ud,.ud,.ud,.ud,.ud,.ud,.ud,.ud,.ud,.ud,.ud,.ud,.ud,.ud,.ud,.ud,.ud],[]⟩) (fun _ _=>⟨[(1,.cells [.str a.title,.sl 14 (a.bars.map Ba.av) .none,.sl 5 (a.parts.map Pa.av) .none]),(0,.cells [.str a.title,.sl 14 (a.bars.map Ba.av) .none,.sl 5 (a.parts.map Pa.av) .none])],200⟩) (fun i _=>i<=a.parts.length) () (Nat.zero_le _) rfl rfl ?_
    rintro j x hj -
    by_cases hjl:j<a.parts.length
    · have hdj:=aHn _ (h3 _ (List.getElem_mem hjl))
      repeat' (first
    |simp -implicitDefEqProofs only[↓reduceIte,aA,aC,facts,Nat.reduceAdd,Nat.reduceEqDiff,Nat.reduceLeDiff,aR7,Pa.av, *]
    |((with_reducible refine jR 28 ?_);refine dK hdj (rfl) ?_)
    |simp -implicitDefEqProofs (disch:=first|assumption|omega) only[wrap_in, *]
    |((with_reducible refine aF (fun _=>?_) (fun _=>?_))<;>try omega)
    | ((with_reducible refine aO ?_);refine kG _ rfl (by decide+kernel) ?_))
      exact kL () hjl (by omega) rfl rfl
    · repeat' (first
    |simp -implicitDefEqProofs only[↓reduceIte,aA,aC,facts,Nat.reduceAdd,Nat.reduceEqDiff,Nat.reduceLeDiff, *]
    |((with_reducible refine aF (fun _=>?_) (fun _=>?_))<;>try omega))
theorem aI3 (a:Sc) (h:a.good):PC Tryz.prog gl 8 [a.av,a.av] (fun v=>v= .bool true):=Wl a h.hi (fun p hp=>(h.pa p hp).fin) h.bh h.ba
def Ba.cells14 (b:Ba):List AV:=[.int .i64 b.meter.num,.int .i64 b.meter.den,.sl 1 (b.meter.groups.map (AV.int .i64)) .none,.int .i64 b.key.fifths,.bool b.key.minor,
 .bool b.turn.begin_,.int .i64 b.turn.times,.sl 1 (b.turn.endings.map (AV.int .i64)) .none,.bool b.turn.sign,.bool b.turn.coda,.bool b.turn.tocoda,.bool b.turn.fine,.int .i64 b.turn.jump,.sl 4 (b.tempos.map Te.av) .none]
def Tu.cells8 (t:Tu):List AV:=[.bool t.begin_,.int .i64 t.times,.sl 1 (t.endings.map (AV.int .i64)) .none,.bool t.sign,.bool t.coda,.bool t.tocoda,.bool t.fine,.int .i64 t.jump]
theorem bG {P:Program} {ok:TypeId->List AV->Prop} {t:TypeId} {ts:List TypeId} {xs:List AV} (h:nO P ok (t::ts) xs): ∃a b,xs=a++b/\ok t a/\nO P ok ts b:=
 ⟨_,_,(List.take_append_drop _ _).symm,h.1,h.2⟩
theorem lS {P:Program} {ok:TypeId->List AV->Prop} {xs:List AV} (h:nO P ok [] xs):xs=[]:=h
theorem lD {P:Program} {d:Nat} {t e:TypeId} {cs:List AV} (hu:P.underlying t=some (.slice e)) (h:okV P (d+1) t cs): ∃rows,cs=[.sl (P.cellsOf e) rows .none]/\rows.length<=maxLen/\ ∀r∈rows,∃cs,r=mkRow P e cs/\okV P d e cs:=by
 rw[okV,hu] at h;exact h
theorem jB {P:Program} {d:Nat} {t:TypeId} {fs:Array Field} {cs:List AV} (hu:P.underlying t=some (.struct fs)) (h:okV P (d+1) t cs):nO P (okV P d) (fs.toList.map (·.type)) cs:=by
 rw[okV,hu] at h;exact h
theorem iK {d:Nat} {cs:List AV} (h:okV Tryz.prog (d+1) 3 cs): ∃n,cs=[.int .i64 n]/\I64 n:=by
 simp only[okV,Tryz.underlying3] at h
 obtain⟨n,rfl,hw⟩:=h
 refine⟨n,rfl,?_⟩
 have e1:IntKind.i64.min= -9223372036854775808:=rfl
 have e2:IntKind.i64.max=9223372036854775807:=rfl
 simp only[Lit.wf,Bool.and_eq_true,decide_eq_true_eq,e1,e2] at hw
 unfold I64
 omega
theorem uQ {d:Nat} {cs:List AV} (h:okV Tryz.prog (d+1) 4 cs): ∃b,cs=[.bool b]:=by
 simpa only[okV,Tryz.underlying4] using h
theorem Vq {d:Nat} {cs:List AV} (h:okV Tryz.prog (d+1) 9 cs): ∃s,cs=[.str s]:=by
 simp only[okV,Tryz.underlying9] at h
 obtain⟨s,rfl,hw⟩:=h
 exact⟨s,rfl⟩
theorem oK {α:Type} {f:α->AV} {Q:α->Prop}: ∀(rows:List AV),(∀r∈rows,∃a,r=f a/\Q a)-> ∃l:List α,rows=l.map f/\ ∀a∈l,Q a
 |[],_=>⟨[],rfl,fun a h=>by cases h⟩
 |r::rows,h=>by
  obtain⟨a,e1,q1⟩:=h r (by simp)
  obtain⟨l,f1,q2⟩:=oK rows fun x hx=>h x (by simp [hx])
  refine⟨a::l,by rw[e1,f1];rfl,fun x hx=>?_⟩
  rcases List.mem_cons.1 hx with rfl|hx
  ·exact q1
  ·exact q2 x hx
theorem aPu {d:Nat} {cs:List AV} (h:okV Tryz.prog (d+1) 3 cs): ∃n:Int,cs=[.int .i64 n]/\True:=by obtain⟨n,e,_⟩:=iK h;exact⟨n,e,trivial⟩
theorem aMm {d:Nat} {cs:List AV} (h:okV Tryz.prog (d+1) 4 cs): ∃n:Bool,cs=[.bool n]/\True:=by obtain⟨n,e⟩:=uQ h;exact⟨n,e,trivial⟩
theorem Xv {d:Nat} {cs:List AV} (h:okV Tryz.prog (d+2) 48 cs): ∃l:List Int,cs=[.sl 1 (l.map (AV.int .i64)) .none]/\ ∀a∈l,True:=by
 obtain⟨rows,rfl,_,hr⟩:=lD Tryz.underlying48 h
 obtain⟨l,rfl,hq⟩:=oK (f:=(AV.int .i64)) (Q:=fun a:Int=>True) rows fun r hr'=>by
  obtain⟨c,rfl,hk⟩:=hr r hr'
  obtain⟨a,e1,q1⟩:=aPu hk
  exact⟨a,by rw[e1];simp only[mkRow,ag3,Bool.false_eq_true,if_false];rfl,q1⟩
 exact⟨l,by rw[show Tryz.prog.cellsOf 3=1 from by kernel_rfl],hq⟩
theorem aMn {d:Nat} {cs:List AV} (h:okV Tryz.prog (d+2) 47 cs): ∃l:List Bool,cs=[.sl 1 (l.map AV.bool) .none]/\ ∀a∈l,True:=by
 obtain⟨rows,rfl,_,hr⟩:=lD Tryz.underlying47 h
 obtain⟨l,rfl,hq⟩:=oK (f:=AV.bool) (Q:=fun a:Bool=>True) rows fun r hr'=>by
  obtain⟨c,rfl,hk⟩:=hr r hr'
  obtain⟨a,e1,q1⟩:=aMm hk
  exact⟨a,by rw[e1];simp only[mkRow,ag4,Bool.false_eq_true,if_false];rfl,q1⟩
 exact⟨l,by rw[show Tryz.prog.cellsOf 4=1 from by kernel_rfl],hq⟩
theorem aU6 {d:Nat} {cs:List AV} (h:okV Tryz.prog (d+2) 45 cs): ∃a:Va,cs=a.cells/\True:=by
 have t0:nO Tryz.prog (okV Tryz.prog (d+1)) [3,3,3,3] cs:=jB Tryz.underlying45 h
 obtain⟨_,_,rfl,g0,t1⟩:=bG t0
 obtain⟨a,rfl,ia⟩:=iK g0
 obtain⟨_,_,rfl,g1,t2⟩:=bG t1
 obtain⟨b,rfl,ib⟩:=iK g1
 obtain⟨_,_,rfl,g2,t3⟩:=bG t2
 obtain⟨c,rfl,ic⟩:=iK g2
 obtain⟨_,_,rfl,g3,t4⟩:=bG t3
 obtain⟨e,rfl,ie⟩:=iK g3
 obtain rfl:=lS t4
 exact⟨⟨a,b,c,e⟩,rfl,trivial⟩
theorem aU7 {d:Nat} {cs:List AV} (h:okV Tryz.prog (d+2) 87 cs): ∃a:Pi,cs=[.int .i64 a.step,.int .i64 a.alter,.int .i64 a.octave]/\True:=by
 have t0:nO Tryz.prog (okV Tryz.prog (d+1)) [3,3,3] cs:=jB Tryz.underlying87 h
 obtain⟨_,_,rfl,g0,t1⟩:=bG t0
 obtain⟨a,rfl,ia⟩:=iK g0
 obtain⟨_,_,rfl,g1,t2⟩:=bG t1
 obtain⟨b,rfl,ib⟩:=iK g1
 obtain⟨_,_,rfl,g2,t3⟩:=bG t2
 obtain⟨c,rfl,ic⟩:=iK g2
 obtain rfl:=lS t3
 exact⟨⟨a,b,c⟩,rfl,trivial⟩
theorem aTa {d:Nat} {cs:List AV} (h:okV Tryz.prog (d+3) 46 cs): ∃l:List Pi,cs=[.sl 3 (l.map Pi.av) .none]/\ ∀a∈l,True:=by
 obtain⟨rows,rfl,_,hr⟩:=lD Tryz.underlying46 h
 obtain⟨l,rfl,hq⟩:=oK (f:=Pi.av) (Q:=fun a:Pi=>True) rows fun r hr'=>by
  obtain⟨c,rfl,hk⟩:=hr r hr'
  obtain⟨a,e1,q1⟩:=aU7 hk
  exact⟨a,by rw[e1];simp only[mkRow,ag87,if_true];rfl,q1⟩
 exact⟨l,by rw[show Tryz.prog.cellsOf 87=3 from by kernel_rfl],hq⟩
theorem aU8 {d:Nat} {cs:List AV} (h:okV Tryz.prog (d+4) 50 cs): ∃a:Ev,cs=a.cells/\True:=by
 have t0:nO Tryz.prog (okV Tryz.prog (d+3)) [3,46,47,45,48,9] cs:=jB Tryz.underlying50 h
 obtain⟨_,_,rfl,g0,t1⟩:=bG t0
 obtain⟨k,rfl,ik⟩:=iK g0
 obtain⟨_,_,rfl,g1,t2⟩:=bG t1
 obtain⟨p,rfl,qp⟩:=aTa g1
 obtain⟨_,_,rfl,g2,t3⟩:=bG t2
 obtain⟨t,rfl,qt⟩:=aMn g2
 obtain⟨_,_,rfl,g3,t4⟩:=bG t3
 obtain⟨v,rfl,qv⟩:=aU6 g3
 obtain⟨_,_,rfl,g4,t5⟩:=bG t4
 obtain⟨m,rfl,qm⟩:=Xv g4
 obtain⟨_,_,rfl,g5,t6⟩:=bG t5
 obtain⟨w,rfl⟩:=Vq g5
 obtain rfl:=lS t6
 exact⟨⟨k,p,t,v,m,w⟩,rfl,trivial⟩
theorem aIh {d:Nat} {cs:List AV} (h:okV Tryz.prog (d+5) 28 cs): ∃l:List Ev,cs=[.sl 9 (l.map Ev.av) .none]/\ ∀a∈l,True:=by
 obtain⟨rows,rfl,_,hr⟩:=lD Tryz.underlying28 h
 obtain⟨l,rfl,hq⟩:=oK (f:=Ev.av) (Q:=fun a:Ev=>True) rows fun r hr'=>by
  obtain⟨c,rfl,hk⟩:=hr r hr'
  obtain⟨a,e1,q1⟩:=aU8 hk
  exact⟨a,by rw[e1];simp only[mkRow,ag50,if_true];rfl,q1⟩
 exact⟨l,by rw[show Tryz.prog.cellsOf 50=9 from by kernel_rfl],hq⟩
theorem aU9 {d:Nat} {cs:List AV} (h:okV Tryz.prog (d+6) 84 cs): ∃a:Vo,cs=[.sl 9 (a.l.map Ev.av) .none]/\True:=by
 have t0:nO Tryz.prog (okV Tryz.prog (d+5)) [28] cs:=jB Tryz.underlying84 h
 obtain⟨_,_,rfl,g0,t1⟩:=bG t0
 obtain⟨l,rfl,ql⟩:=aIh g0
 obtain rfl:=lS t1
 exact⟨⟨l⟩,rfl,trivial⟩
theorem aTb {d:Nat} {cs:List AV} (h:okV Tryz.prog (d+7) 85 cs): ∃l:List Vo,cs=[.sl 1 (l.map Vo.av) .none]/\ ∀a∈l,True:=by
 obtain⟨rows,rfl,_,hr⟩:=lD Tryz.underlying85 h
 obtain⟨l,rfl,hq⟩:=oK (f:=Vo.av) (Q:=fun a:Vo=>True) rows fun r hr'=>by
  obtain⟨c,rfl,hk⟩:=hr r hr'
  obtain⟨a,e1,q1⟩:=aU9 hk
  exact⟨a,by rw[e1];simp only[mkRow,ag84,if_true];rfl,q1⟩
 exact⟨l,by rw[show Tryz.prog.cellsOf 84=1 from by kernel_rfl],hq⟩
theorem aVa {d:Nat} {cs:List AV} (h:okV Tryz.prog (d+7) 85 cs): ∃l:List Vo,cs=[bU l]/\True:=by obtain⟨l,e,_⟩:=aTb h;exact⟨l,e,trivial⟩
theorem aIi {d:Nat} {cs:List AV} (h:okV Tryz.prog (d+8) 56 cs): ∃l:List (List Vo),cs=[.sl 1 (l.map bU) .none]/\ ∀a∈l,True:=by
 obtain⟨rows,rfl,_,hr⟩:=lD Tryz.underlying56 h
 obtain⟨l,rfl,hq⟩:=oK (f:=bU) (Q:=fun a:(List Vo)=>True) rows fun r hr'=>by
  obtain⟨c,rfl,hk⟩:=hr r hr'
  obtain⟨a,e1,q1⟩:=aVa hk
  exact⟨a,by rw[e1];simp only[mkRow,ag85,Bool.false_eq_true,if_false];rfl,q1⟩
 exact⟨l,by rw[show Tryz.prog.cellsOf 85=1 from by kernel_rfl],hq⟩
theorem aPv {d:Nat} {cs:List AV} (h:okV Tryz.prog (d+8) 56 cs): ∃l:List (List Vo),cs=[dM l]/\True:=by obtain⟨l,e,_⟩:=aIi h;exact⟨l,e,trivial⟩
theorem aPw {d:Nat} {cs:List AV} (h:okV Tryz.prog (d+9) 29 cs): ∃l:List (List (List Vo)),cs=[.sl 1 (l.map dM) .none]/\ ∀a∈l,True:=by
 obtain⟨rows,rfl,_,hr⟩:=lD Tryz.underlying29 h
 obtain⟨l,rfl,hq⟩:=oK (f:=dM) (Q:=fun a:(List (List Vo))=>True) rows fun r hr'=>by
  obtain⟨c,rfl,hk⟩:=hr r hr'
  obtain⟨a,e1,q1⟩:=aPv hk
  exact⟨a,by rw[e1];simp only[mkRow,ag56,Bool.false_eq_true,if_false];rfl,q1⟩
 exact⟨l,by rw[show Tryz.prog.cellsOf 56=1 from by kernel_rfl],hq⟩
theorem aMo {d:Nat} {cs:List AV} (h:okV Tryz.prog (d+2) 108 cs): ∃a:Ra,cs=[.int .i64 a.num,.int .i64 a.den]/\a.fits:=by
 have t0:nO Tryz.prog (okV Tryz.prog (d+1)) [3,3] cs:=jB Tryz.underlying108 h
 obtain⟨_,_,rfl,g0,t1⟩:=bG t0
 obtain⟨a,rfl,ia⟩:=iK g0
 obtain⟨_,_,rfl,g1,t2⟩:=bG t1
 obtain⟨b,rfl,ib⟩:=iK g1
 obtain rfl:=lS t2
 exact⟨⟨a,b⟩,rfl,⟨ia,ib⟩⟩
theorem aVb {d:Nat} {cs:List AV} (h:okV Tryz.prog (d+3) 138 cs): ∃a:Te,cs=[.int .i64 a.at_.num,.int .i64 a.at_.den,.int .i64 a.micros,.bool a.ramp]/\a.at_.fits:=by
 have t0:nO Tryz.prog (okV Tryz.prog (d+2)) [108,3,4] cs:=jB Tryz.underlying138 h
 obtain⟨_,_,rfl,g0,t1⟩:=bG t0
 obtain⟨r,rfl,qr⟩:=aMo g0
 obtain⟨_,_,rfl,g1,t2⟩:=bG t1
 obtain⟨m,rfl,im⟩:=iK g1
 obtain⟨_,_,rfl,g2,t3⟩:=bG t2
 obtain⟨b,rfl⟩:=uQ g2
 obtain rfl:=lS t3
 exact⟨⟨r,m,b⟩,rfl,qr⟩
theorem aTc {d:Nat} {cs:List AV} (h:okV Tryz.prog (d+4) 79 cs): ∃l:List Te,cs=[.sl 4 (l.map Te.av) .none]/\ ∀a∈l,a.at_.fits:=by
 obtain⟨rows,rfl,_,hr⟩:=lD Tryz.underlying79 h
 obtain⟨l,rfl,hq⟩:=oK (f:=Te.av) (Q:=fun a:Te=>a.at_.fits) rows fun r hr'=>by
  obtain⟨c,rfl,hk⟩:=hr r hr'
  obtain⟨a,e1,q1⟩:=aVb hk
  exact⟨a,by rw[e1];simp only[mkRow,aSk,if_true];rfl,q1⟩
 exact⟨l,by rw[show Tryz.prog.cellsOf 138=4 from by kernel_rfl],hq⟩
theorem aVc {d:Nat} {cs:List AV} (h:okV Tryz.prog (d+3) 110 cs): ∃a:Dy,cs=[.int .i64 a.at_.num,.int .i64 a.at_.den,.int .i64 a.level,.bool a.hair]/\a.at_.fits:=by
 have t0:nO Tryz.prog (okV Tryz.prog (d+2)) [108,3,4] cs:=jB Tryz.underlying110 h
 obtain⟨_,_,rfl,g0,t1⟩:=bG t0
 obtain⟨r,rfl,qr⟩:=aMo g0
 obtain⟨_,_,rfl,g1,t2⟩:=bG t1
 obtain⟨m,rfl,im⟩:=iK g1
 obtain⟨_,_,rfl,g2,t3⟩:=bG t2
 obtain⟨b,rfl⟩:=uQ g2
 obtain rfl:=lS t3
 exact⟨⟨r,m,b⟩,rfl,qr⟩
theorem aTd {d:Nat} {cs:List AV} (h:okV Tryz.prog (d+4) 89 cs): ∃l:List Dy,cs=[.sl 4 (l.map Dy.av) .none]/\ ∀a∈l,a.at_.fits:=by
 obtain⟨rows,rfl,_,hr⟩:=lD Tryz.underlying89 h
 obtain⟨l,rfl,hq⟩:=oK (f:=Dy.av) (Q:=fun a:Dy=>a.at_.fits) rows fun r hr'=>by
  obtain⟨c,rfl,hk⟩:=hr r hr'
  obtain⟨a,e1,q1⟩:=aVc hk
  exact⟨a,by rw[e1];simp only[mkRow,aSj,if_true];rfl,q1⟩
 exact⟨l,by rw[show Tryz.prog.cellsOf 110=4 from by kernel_rfl],hq⟩
theorem aVd {d:Nat} {cs:List AV} (h:okV Tryz.prog (d+4) 89 cs): ∃l:List Dy,cs=[eP l]/\ ∀t∈l,t.at_.fits:=aTd h
theorem aIj {d:Nat} {cs:List AV} (h:okV Tryz.prog (d+5) 57 cs): ∃l:List (List Dy),cs=[.sl 1 (l.map eP) .none]/\ ∀a∈l,(∀t∈a,t.at_.fits):=by
 obtain⟨rows,rfl,_,hr⟩:=lD Tryz.underlying57 h
 obtain⟨l,rfl,hq⟩:=oK (f:=eP) (Q:=fun a:(List Dy)=>(∀t∈a,t.at_.fits)) rows fun r hr'=>by
  obtain⟨c,rfl,hk⟩:=hr r hr'
  obtain⟨a,e1,q1⟩:=aVd hk
  exact⟨a,by rw[e1];simp only[mkRow,ag89,Bool.false_eq_true,if_false];rfl,q1⟩
 exact⟨l,by rw[show Tryz.prog.cellsOf 89=1 from by kernel_rfl],hq⟩
theorem aVe {d:Nat} {cs:List AV} (h:okV Tryz.prog (d+3) 74 cs): ∃a:Me,cs=[.int .i64 a.num,.int .i64 a.den,.sl 1 (a.groups.map (AV.int .i64)) .none]/\(I64 a.num/\I64 a.den):=by
 have t0:nO Tryz.prog (okV Tryz.prog (d+2)) [3,3,48] cs:=jB Tryz.underlying74 h
 obtain⟨_,_,rfl,g0,t1⟩:=bG t0
 obtain⟨a,rfl,ia⟩:=iK g0
 obtain⟨_,_,rfl,g1,t2⟩:=bG t1
 obtain⟨b,rfl,ib⟩:=iK g1
 obtain⟨_,_,rfl,g2,t3⟩:=bG t2
 obtain⟨g,rfl,qg⟩:=Xv g2
 obtain rfl:=lS t3
 exact⟨⟨a,b,g⟩,rfl,⟨ia,ib⟩⟩
theorem aVf {d:Nat} {cs:List AV} (h:okV Tryz.prog (d+2) 76 cs): ∃a:Ke,cs=[.int .i64 a.fifths,.bool a.minor]/\True:=by
 have t0:nO Tryz.prog (okV Tryz.prog (d+1)) [3,4] cs:=jB Tryz.underlying76 h
 obtain⟨_,_,rfl,g0,t1⟩:=bG t0
 obtain⟨a,rfl,ia⟩:=iK g0
 obtain⟨_,_,rfl,g1,t2⟩:=bG t1
 obtain⟨b,rfl⟩:=uQ g1
 obtain rfl:=lS t2
 exact⟨⟨a,b⟩,rfl,trivial⟩
theorem aVg {d:Nat} {cs:List AV} (h:okV Tryz.prog (d+3) 78 cs): ∃a:Tu,cs=a.cells8/\True:=by
 have t0:nO Tryz.prog (okV Tryz.prog (d+2)) [4,3,48,4,4,4,4,3] cs:=jB Tryz.underlying78 h
 obtain⟨_,_,rfl,g0,t1⟩:=bG t0
 obtain⟨b,rfl⟩:=uQ g0
 obtain⟨_,_,rfl,g1,t2⟩:=bG t1
 obtain⟨t,rfl,it⟩:=iK g1
 obtain⟨_,_,rfl,g2,t3⟩:=bG t2
 obtain⟨e,rfl,qe⟩:=Xv g2
 obtain⟨_,_,rfl,g3,t4⟩:=bG t3
 obtain⟨s,rfl⟩:=uQ g3
 obtain⟨_,_,rfl,g4,t5⟩:=bG t4
 obtain⟨c,rfl⟩:=uQ g4
 obtain⟨_,_,rfl,g5,t6⟩:=bG t5
 obtain⟨o,rfl⟩:=uQ g5
 obtain⟨_,_,rfl,g6,t7⟩:=bG t6
 obtain⟨f,rfl⟩:=uQ g6
 obtain⟨_,_,rfl,g7,t8⟩:=bG t7
 obtain⟨j,rfl,ij⟩:=iK g7
 obtain rfl:=lS t8
 exact⟨⟨b,t,e,s,c,o,f,j⟩,rfl,trivial⟩
def Ba.typed (b:Ba):Prop:=I64 b.meter.num/\I64 b.meter.den/\ ∀t∈b.tempos,t.at_.fits
theorem aVh {d:Nat} {cs:List AV} (h:okV Tryz.prog (d+5) 81 cs): ∃a:Ba,cs=a.cells14/\a.typed:=by
 have t0:nO Tryz.prog (okV Tryz.prog (d+4)) [74,76,78,79] cs:=jB Tryz.underlying81 h
 obtain⟨_,_,rfl,g0,t1⟩:=bG t0
 obtain⟨m,rfl,qm⟩:=aVe g0
 obtain⟨_,_,rfl,g1,t2⟩:=bG t1
 obtain⟨k,rfl,qk⟩:=aVf g1
 obtain⟨_,_,rfl,g2,t3⟩:=bG t2
 obtain⟨t,rfl,qt⟩:=aVg g2
 obtain⟨_,_,rfl,g3,t4⟩:=bG t3
 obtain⟨e,rfl,qe⟩:=aTc g3
 obtain rfl:=lS t4
 exact⟨⟨m,k,t,e⟩,rfl,⟨qm.1,qm.2,qe⟩⟩
theorem aIk {d:Nat} {cs:List AV} (h:okV Tryz.prog (d+6) 22 cs): ∃l:List Ba,cs=[.sl 14 (l.map Ba.av) .none]/\ ∀a∈l,a.typed:=by
 obtain⟨rows,rfl,_,hr⟩:=lD Tryz.underlying22 h
 obtain⟨l,rfl,hq⟩:=oK (f:=Ba.av) (Q:=fun a:Ba=>a.typed) rows fun r hr'=>by
  obtain⟨c,rfl,hk⟩:=hr r hr'
  obtain⟨a,e1,q1⟩:=aVh hk
  exact⟨a,by rw[e1];simp only[mkRow,ag81,if_true];rfl,q1⟩
 exact⟨l,by rw[show Tryz.prog.cellsOf 81=14 from by kernel_rfl],hq⟩
def Pa.typed (p:Pa):Prop:= ∀d∈p.dyns,∀t∈d,t.at_.fits
theorem aVi {d:Nat} {cs:List AV} (h:okV Tryz.prog (d+9) 59 cs): ∃a:Pa,cs=a.cells5/\a.typed:=by
 have t0:nO Tryz.prog (okV Tryz.prog (d+8)) [9,3,3,56,57] cs:=jB Tryz.underlying59 h
 obtain⟨_,_,rfl,g0,t1⟩:=bG t0
 obtain⟨n,rfl⟩:=Vq g0
 obtain⟨_,_,rfl,g1,t2⟩:=bG t1
 obtain⟨c,rfl,ic⟩:=iK g1
 obtain⟨_,_,rfl,g2,t3⟩:=bG t2
 obtain⟨x,rfl,ix⟩:=iK g2
 obtain⟨_,_,rfl,g3,t4⟩:=bG t3
 obtain⟨e,rfl,qe⟩:=aIi g3
 obtain⟨_,_,rfl,g4,t5⟩:=bG t4
 obtain⟨y,rfl,qy⟩:=aIj g4
 obtain rfl:=lS t5
 exact⟨⟨n,c,x,e,y⟩,rfl,qy⟩
theorem aTe {d:Nat} {cs:List AV} (h:okV Tryz.prog (d+10) 23 cs): ∃l:List Pa,cs=[.sl 5 (l.map Pa.av) .none]/\ ∀a∈l,a.typed:=by
 obtain⟨rows,rfl,_,hr⟩:=lD Tryz.underlying23 h
 obtain⟨l,rfl,hq⟩:=oK (f:=Pa.av) (Q:=fun a:Pa=>a.typed) rows fun r hr'=>by
  obtain⟨c,rfl,hk⟩:=hr r hr'
  obtain⟨a,e1,q1⟩:=aVi hk
  exact⟨a,by rw[e1];simp only[mkRow,ag59,if_true];rfl,q1⟩
 exact⟨l,by rw[show Tryz.prog.cellsOf 59=5 from by kernel_rfl],hq⟩
structure Sc.typed (s:Sc):Prop where
 bars: ∀b∈s.bars,b.typed
 parts: ∀p∈s.parts,p.typed
theorem aVj {d:Nat} {cs:List AV} (h:okV Tryz.prog (d+11) 25 cs): ∃a:Sc,cs=[.str a.title,.sl 14 (a.bars.map Ba.av) .none,.sl 5 (a.parts.map Pa.av) .none]/\a.typed:=by
 have t0:nO Tryz.prog (okV Tryz.prog (d+10)) [9,22,23] cs:=jB Tryz.underlying25 h
 obtain⟨_,_,rfl,g0,t1⟩:=bG t0
 obtain⟨t,rfl⟩:=Vq g0
 obtain⟨_,_,rfl,g1,t2⟩:=bG t1
 obtain⟨b,rfl,qb⟩:=aIk g1
 obtain⟨_,_,rfl,g2,t3⟩:=bG t2
 obtain⟨p,rfl,qp⟩:=aTe g2
 obtain rfl:=lS t3
 exact⟨⟨t,b,p⟩,rfl,⟨qb,qp⟩⟩
theorem aVk {d:Nat} {cs:List AV} (h:okV Tryz.prog (d+2) 27 cs): ∃a:(Int×Int×Int×Int),cs=[.int .i64 a.1,.int .i64 a.2.1,.int .i64 a.2.2.1,.int .i64 a.2.2.2]/\(I64 a.1/\I64 a.2.1/\I64 a.2.2.1/\I64 a.2.2.2):=by
 have t0:nO Tryz.prog (okV Tryz.prog (d+1)) [3,3,3,3] cs:=jB Tryz.underlying27 h
 obtain⟨_,_,rfl,g0,t1⟩:=bG t0
 obtain⟨a,rfl,ia⟩:=iK g0
 obtain⟨_,_,rfl,g1,t2⟩:=bG t1
 obtain⟨b,rfl,ib⟩:=iK g1
 obtain⟨_,_,rfl,g2,t3⟩:=bG t2
 obtain⟨c,rfl,ic⟩:=iK g2
 obtain⟨_,_,rfl,g3,t4⟩:=bG t3
 obtain⟨e,rfl,ie⟩:=iK g3
 obtain rfl:=lS t4
 exact⟨(a,b,c,e),rfl,⟨ia,ib,ic,ie⟩⟩
theorem aVl {d:Nat} {cs:List AV} (h:okV Tryz.prog (d+2) 32 cs): ∃a:(Int×Int),cs=[.int .i64 a.1,.int .i64 a.2]/\True:=by
 have t0:nO Tryz.prog (okV Tryz.prog (d+1)) [3,3] cs:=jB Tryz.underlying32 h
 obtain⟨_,_,rfl,g0,t1⟩:=bG t0
 obtain⟨a,rfl,ia⟩:=iK g0
 obtain⟨_,_,rfl,g1,t2⟩:=bG t1
 obtain⟨b,rfl,ib⟩:=iK g1
 obtain rfl:=lS t2
 exact⟨(a,b),rfl,trivial⟩
structure aH.typed (o:aH):Prop where
 at_:I64 o.at_
 count:I64 o.count
theorem aMp {d:Nat} {cs:List AV} (h:okV Tryz.prog (d+11) 25 cs): ∃s:Sc,AV.agg cs=s.av/\s.typed:=by
 obtain⟨s,rfl,q⟩:=aVj h
 exact⟨s,rfl,q⟩
theorem yI {α:Type} {n:Nat} {p:α->Bool} {l:List α} (h:Gx n p l=true):l.length<=n/\ ∀x∈l,p x=true:=by
 simp only[Gx,Bool.and_eq_true,decide_eq_true_eq,List.all_eq_true] at h
 exact⟨by omega,h.2⟩
theorem aG5 {e:Ev} (h:e.fewB=true):e.small:=by
 simp only[Ev.fewB,Bool.and_eq_true,decide_eq_true_eq] at h
 exact⟨by omega,by omega,by omega⟩
theorem Gu {l:List Ev} (h:zU l=true):l.length<=12/\ ∀e∈l,e.small:=by
 obtain⟨h1,h2⟩:=yI h
 exact⟨h1,fun e he=>aG5 (h2 e he)⟩
structure FewS (s:Sc):Prop where
 small:s.small
 ends: ∀b∈s.bars,b.turn.endings.length<=1000000
 evs: ∀p∈s.parts,∀c∈p.cells,∀v∈c,v.l.length<=12
theorem aMt {s:Sc} (ht:s.typed) (h:s.fewB=true):FewS s:=by
 simp only[Sc.fewB,Bool.and_eq_true,Bool.not_eq_true',decide_eq_false_iff_not,List.all_eq_true] at h
 obtain⟨⟨h1,h2,h3,h4⟩,h5⟩:=h
 obtain⟨b1,b2⟩:=yI h4
 have hb: ∀b∈s.bars,b.meter.groups.length<=12/\b.turn.endings.length<=12/\b.tempos.length<=12:=by
  intro b hb
  have:=b2 b hb
  simp only[Ba.fewB,Bool.not_eq_true',Bool.or_eq_false_iff,decide_eq_false_iff_not] at this
  omega
 have hp: ∀p∈s.parts,(∀c∈p.cells,c.length<=4/\ ∀v∈c,v.l.length<=12/\ ∀e∈v.l,e.small)/\ ∀d∈p.dyns,d.length<=12:=by
  intro p hp
  have:=h5 p hp
  simp only[Pa.fewB,Bool.and_eq_true] at this
  obtain⟨_,q1,q2⟩:=this
  obtain⟨_,q3⟩:=yI q1
  obtain⟨_,q4⟩:=yI q2
  refine⟨fun c hc=>?_,fun d hd=>?_⟩
  ·have:=q3 c hc
   simp only[Je,Bool.and_eq_true,Bool.not_eq_true',decide_eq_false_iff_not,List.all_eq_true] at this
   exact⟨by omega,fun v hv=>Gu (this.2 v hv)⟩
  ·have:=q4 d hd
   simp only[Vs,Bool.not_eq_true',decide_eq_false_iff_not] at this
   omega
 refine⟨⟨fun b hb'=>?_,fun p hp'=>⟨fun c hc=>?_,fun d hd=>?_⟩,by omega,by omega⟩,fun b hb'=>by have:=hb b hb';omega,fun p hp' c hc v hv=>(((hp p hp').1 c hc).2 v hv).1⟩
 ·have h:=hb b hb'
  have t:=ht.bars b hb'
  exact⟨by omega,t.1,t.2.1,by omega,t.2.2⟩
 ·have h:=(hp p hp').1 c hc
  exact⟨by omega,fun v hv=>⟨by have:=(h.2 v hv).1;omega,(h.2 v hv).2⟩⟩
 ·have h:=(hp p hp').2 d hd
  exact⟨by omega,ht.parts p hp' d hd⟩
theorem aPy {l es:List Ev} {a n:Nat} {e:Ev} (h:e∈fZ l a n es):e∈l\/e∈es:=by
 simp only[fZ,List.mem_append] at h
 rcases h with(h|h)|h
 ·exact .inl (List.mem_of_mem_take h)
 ·exact .inr h
 ·exact .inl (List.mem_of_mem_drop h)
end Go.Proofs.Pv
