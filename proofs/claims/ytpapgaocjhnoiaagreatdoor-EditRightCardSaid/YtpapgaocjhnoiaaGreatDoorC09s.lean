/-
  Layer 9's reference: is a score small; is what an edit needs small?
  A score and an edit as a claim's reading tells them.
  EditElse: the law answers true for all scores and edits.
  Conditions: none but those that each statement names.
-/
import Derived.Test.YtpapgaocjhnoiaaGreatDoorC09k
import Derived.Test.YtpapgaocjhnoiaaGreatDoorPvV
set_option linter.unusedVariables false
set_option linter.unusedSimpArgs false
namespace Go.Proofs.Pv
open Go Go.Proofs
set_option maxRecDepth 100000
set_option maxHeartbeats 2000000
theorem getEv {l:List Ev} {i:Nat} (h:i<l.length):l[i]?=some l[i]:=List.getElem?_eq_getElem h
theorem getVo {l:List Vo} {i:Nat} (h:i<l.length):l[i]?=some l[i]:=List.getElem?_eq_getElem h
theorem aJ6 {l:List (List Vo)} {i:Nat} (h:i<l.length):l[i]?=some l[i]:=List.getElem?_eq_getElem h
theorem getDs {l:List (List Dy)} {i:Nat} (h:i<l.length):l[i]?=some l[i]:=List.getElem?_eq_getElem h
theorem getBa {l:List Ba} {i:Nat} (h:i<l.length):l[i]?=some l[i]:=List.getElem?_eq_getElem h
theorem getPa {l:List Pa} {i:Nat} (h:i<l.length):l[i]?=some l[i]:=List.getElem?_eq_getElem h
theorem getCs {l:List (List (List Vo))} {i:Nat} (h:i<l.length):l[i]?=some l[i]:=List.getElem?_eq_getElem h
theorem aUe {l:List (List (List Dy))} {i:Nat} (h:i<l.length):l[i]?=some l[i]:=List.getElem?_eq_getElem h
def Fh {α:Type} (n:Nat) (p:α→Bool) (l:List α):Bool:=decide ((l.length:Int)≤(n:Nat)) && l.all p
def upTo {α:Type} (p:α→Bool) (l:List α) (i:Nat):Prop:= ∀j (hj:j<l.length),j<i→p l[j]=true
theorem sS {α:Type} {p:α→Bool} {l:List α}:upTo p l 0:=fun j _ h=>absurd h (Nat.not_lt_zero j)
theorem sU {α:Type} {p:α→Bool} {l:List α} {i:Nat} (h:upTo p l i) (hi:i<l.length) (hp:p l[i]=true):upTo p l (i+1):=fun j hj hji=>by
 rcases Nat.lt_or_ge j i with h1|h1
 ·exact h j hj h1
 ·have:j=i:=by omega
  subst this;exact hp
theorem Fj {α:Type} {p:α→Bool} {l:List α} {i:Nat} (hi:i<l.length) (h:p l[i]=false):l.all p=false:=by
 rw[List.all_eq_false]
 exact⟨l[i],List.getElem_mem hi,by simp [h]⟩
theorem Fp {α:Type} {p:α→Bool} {l:List α} {i:Nat} (hi:l.length≤i) (hQ:upTo p l i):l.all p=true:=by
 rw[List.all_eq_true]
 intro x hx
 obtain⟨j,hj,rfl⟩:=List.mem_iff_getElem.1 hx
 exact hQ j hj (by omega)
theorem Fq {α:Type} {n:Nat} {p:α→Bool} {l:List α} {i:Nat} (hi:i<l.length) (h:p l[i]=false):Fh n p l=false:=by
 simp [Fh,Fj hi h]
theorem zK {α:Type} {n:Nat} {p:α→Bool} {l:List α} {i:Nat} (hi:l.length≤i∨n<i) (hQ:upTo p l i):Fh n p l=decide ((l.length:Int)≤(n:Nat)):=by
 by_cases h:l.length≤n
 ·simp [Fh,Fp (i:=i) (by omega) hQ]
 ·have: ¬((l.length:Int)≤(n:Nat)):=by omega
  simp [Fh,this]
def Ev.fewB (e:Ev):Bool:=decide ((e.pitches.length:Int)≤20) && (decide ((e.ties.length:Int)≤20) && (decide ((e.marks.length:Int)≤20) && decide ((e.word.size:Int)≤100)))
theorem aSk (e:Ev):PC Tryz.prog gl 36 [e.av] (fun v=>v= .bool e.fewB):=by
 (refine PC.introZ 1 mix (fn:=Tryz.f36) Tryz.func36 rfl (names 36 _ Tryz.func36) fun F hF hro W=>?_;simp -implicitDefEqProofs only[Tryz.ntmps36,Tryz.results36,aI,Nat.reduceAdd,Nat.reduceSub])
 repeat' (first
  |simp -implicitDefEqProofs only[↓reduceIte,aB,aC,facts,Nat.reduceAdd,Nat.reduceLeDiff,Ev.av, *]
  |((with_reducible refine jG (fun _=>?_) (fun _=>?_))<;>try omega))
 all_goals first|grind[Ev.fewB]|(simp_all [Ev.fewB];done)|(simp [Ev.fewB, *];omega)
def yU (l:List Ev):Bool:=Fh 12 Ev.fewB l
theorem aCj (l:List Ev):PC Tryz.prog gl 15 [.sl 9 (l.map Ev.av) .none] (fun v=>v= .bool (yU l)):=by
 (refine PC.introZ 2 mix (fn:=Tryz.f15) Tryz.func15 rfl (names 15 _ Tryz.func15) fun F hF hro W=>?_;simp -implicitDefEqProofs only[Tryz.ntmps15,Tryz.results15,aI,Nat.reduceAdd,Nat.reduceSub])
 repeat' (simp -implicitDefEqProofs only[aB,aC,Nat.reduceAdd, *])
 refine Ap (jQ 23 [0,3]) [] 100 13 (fun i (_:Unit)=>⟨[.sl 9 (l.map Ev.av) .none,.ud,.ud,.int .i64 (i:Nat),.ud,.ud,.ud,.ud,.ud,.ud,.ud,.ud,.ud,.ud,.ud,.ud,.ud,.ud,.ud,.ud,.ud,.ud,.ud],[]⟩) (fun _ _=>⟨[],100⟩) (fun i _=>upTo Ev.fewB l i) () sS rfl rfl ?_
 rintro i x hi hQ
 repeat' (first
  |simp -implicitDefEqProofs only[↓reduceIte,aB,aC,facts,Nat.reduceAdd, *]
  |simp -implicitDefEqProofs (disch:=first|assumption|omega) only[aB,aC,facts,if_pos,Nat.reduceAdd,wrap_in,getEv,Ev.av, *]
  |((with_reducible refine aH (fun _=>?_) (fun _=>?_))<;>try omega)
  |((with_reducible refine dO (fun _=>?_) (fun _=>?_))<;>try omega)
  |((with_reducible refine jG (fun _=>?_) (fun _=>?_))<;>try omega)
  |((with_reducible refine aT 36 ?_);refine PC.useZ hF (aSk _) (rfl) fun v hv=>?_;subst hv))
 ·rename_i h1 h2 h3
  exact yF () (by omega) (sU hQ (by omega) h3) rfl rfl
 ·rename_i h1 h2 h3
  rw[yU,Fq (by omega) h3]
 ·rename_i h1 h2
  rw[yU,zK (.inr (by omega)) hQ];rfl
 ·rename_i h1
  rw[yU,zK (.inl (by omega)) hQ];rfl
def Ux (d:List Dy):Bool:=!decide ((12:Int)< (d.length:Int))
def Fv (l:List (List Dy)):Bool:=Fh 6 Ux l
theorem aCk (l:List (List Dy)):PC Tryz.prog gl 14 [.sl 1 (l.map fF) .none] (fun v=>v= .bool (Fv l)):=by
 (refine PC.introZ 2 mix (fn:=Tryz.f14) Tryz.func14 rfl (names 14 _ Tryz.func14) fun F hF hro W=>?_;simp -implicitDefEqProofs only[Tryz.ntmps14,Tryz.results14,aI,Nat.reduceAdd,Nat.reduceSub])
 repeat' (simp -implicitDefEqProofs only[aB,aC,Nat.reduceAdd, *])
 refine Ap (jQ 23 [0,3]) [] 100 7 (fun i (_:Unit)=>⟨[.sl 1 (l.map fF) .none,.ud,.ud,.int .i64 (i:Nat),.ud,.ud,.ud,.ud,.ud,.ud,.ud,.ud,.ud,.ud,.ud,.ud,.ud,.ud,.ud,.ud,.ud,.ud,.ud],[]⟩) (fun _ _=>⟨[],100⟩) (fun i _=>upTo Ux l i) () sS rfl rfl ?_
 rintro i x hi hQ
 repeat' (first
  |simp -implicitDefEqProofs only[↓reduceIte,aB,aC,facts,Nat.reduceAdd, *]
  |simp -implicitDefEqProofs (disch:=first|assumption|omega) only[aB,aC,facts,Nat.reduceAdd,wrap_in,getDs,fF, *]
  |((with_reducible refine aH (fun _=>?_) (fun _=>?_))<;>try omega)
  |((with_reducible refine jG (fun _=>?_) (fun _=>?_))<;>try omega))
 all_goals first
  |(rw[Fv,Fq (i:=i) (by omega) (by simp only[Ux,Bool.not_eq_true',Bool.not_eq_false',Bool.or_eq_true,Bool.or_eq_false_iff,Bool.and_eq_true,decide_eq_true_eq,decide_eq_false_iff_not];omega)])
  |(rw[Fv,zK (i:=i) (by omega) hQ];rfl)
  |exact yF () (by omega) (sU hQ (by omega) (by simp only[Ux,Bool.not_eq_true',Bool.not_eq_false',Bool.or_eq_true,Bool.or_eq_false_iff,Bool.and_eq_true,decide_eq_true_eq,decide_eq_false_iff_not];omega)) rfl rfl
def Ba.fewB (b:Ba):Bool:=!(decide ((12:Int)< (b.meter.groups.length:Int))||(decide ((12:Int)< (b.turn.endings.length:Int))||decide ((12:Int)< (b.tempos.length:Int))))
def Ro (l:List Ba):Bool:=Fh 6 Ba.fewB l
theorem aCl (l:List Ba):PC Tryz.prog gl 12 [.sl 14 (l.map Ba.av) .none] (fun v=>v= .bool (Ro l)):=by
 (refine PC.introZ 2 mix (fn:=Tryz.f12) Tryz.func12 rfl (names 12 _ Tryz.func12) fun F hF hro W=>?_;simp -implicitDefEqProofs only[Tryz.ntmps12,Tryz.results12,aI,Nat.reduceAdd,Nat.reduceSub])
 repeat' (simp -implicitDefEqProofs only[aB,aC,Nat.reduceAdd, *])
 refine Ap (jQ 44 [0,3]) [] 100 7 (fun i (_:Unit)=>⟨[.sl 14 (l.map Ba.av) .none,.ud,.ud,.int .i64 (i:Nat),.ud,.ud,.ud,.ud,.ud,.ud,.ud,.ud,.ud,.ud,.ud,.ud,.ud,.ud,.ud,.ud,.ud,.ud,.ud,.ud,.ud,.ud,.ud,.ud,.ud,.ud,.ud,.ud,.ud,.ud,.ud,.ud,.ud,.ud,.ud,.ud,.ud,.ud,.ud,.ud],[]⟩) (fun _ _=>⟨[],100⟩) (fun i _=>upTo Ba.fewB l i) () sS rfl rfl ?_
 rintro i x hi hQ
 repeat' (first
  |simp -implicitDefEqProofs only[↓reduceIte,aB,aC,facts,Nat.reduceAdd, *]
  |simp -implicitDefEqProofs (disch:=first|assumption|omega) only[aB,aC,facts,Nat.reduceAdd,Nat.reduceEqDiff,Nat.reduceLT,Nat.reduceLeDiff,wrap_in,getBa,Ba.av, *]
  |((with_reducible refine aH (fun _=>?_) (fun _=>?_))<;>try omega)
  |((with_reducible refine iH (fun _=>?_) (fun _=>?_))<;>try omega)
  |((with_reducible refine jG (fun _=>?_) (fun _=>?_))<;>try omega))
 all_goals first
  |(rw[Ro,Fq (i:=i) (by omega) (by simp only[Ba.fewB,Bool.not_eq_true',Bool.not_eq_false',Bool.or_eq_true,Bool.or_eq_false_iff,Bool.and_eq_true,decide_eq_true_eq,decide_eq_false_iff_not];omega)])
  |(rw[Ro,zK (i:=i) (by omega) hQ];rfl)
  |exact yF () (by omega) (sU hQ (by omega) (by simp only[Ba.fewB,Bool.not_eq_true',Bool.not_eq_false',Bool.or_eq_true,Bool.or_eq_false_iff,Bool.and_eq_true,decide_eq_true_eq,decide_eq_false_iff_not];omega)) rfl rfl
def Ie (c:List Vo):Bool:=!decide ((4:Int)< (c.length:Int)) && c.all fun v=>yU v.l
def yV (l:List (List Vo)):Bool:=Fh 6 Ie l
theorem aCm (l:List (List Vo)):PC Tryz.prog gl 13 [.sl 1 (l.map bW) .none] (fun v=>v= .bool (yV l)):=by
  (refine PC.introZ 2 mix (fn:=Tryz.f13) Tryz.func13 rfl (names 13 _ Tryz.func13) fun F hF hro W=>?_;simp -implicitDefEqProofs only[Tryz.ntmps13,Tryz.results13,aI,Nat.reduceAdd,Nat.reduceSub])
  repeat' (simp -implicitDefEqProofs only[aB,aC,Nat.reduceAdd, *])
  refine Ap (jQ 43 [0,3]) [] 100 7 (fun i (_:Unit)=>⟨[.sl 1 (l.map bW) .none,.ud,.ud,.int .i64 (i:Nat),.ud,.ud,.ud,.ud,.ud,.ud,.ud,.ud,.ud,.ud,.ud,.ud,.ud,.ud,.ud,.ud,.ud,.ud,.ud,.ud,.ud,.ud,.ud,.ud,.ud,.ud,.ud,.ud,.ud,.ud,.ud,.ud,.ud,.ud,.ud,.ud,.ud,.ud,.ud],[]⟩) (fun _ _=>⟨[],100⟩) (fun i _=>upTo Ie l i) () sS rfl rfl ?_
  rintro i x hi hQ
  repeat' (first
    |simp -implicitDefEqProofs only[↓reduceIte,aB,aC,facts,Nat.reduceAdd, *]
    |simp -implicitDefEqProofs (disch:=first|assumption|omega) only[aB,aC,facts,Nat.reduceAdd,aJ6,bW, *]
    |((with_reducible refine aH (fun _=>?_) (fun _=>?_))<;>try omega)
    |((with_reducible refine jG (fun _=>?_) (fun _=>?_))<;>try omega))
  · rename_i h1 h2 h3
    rw[yV,Fq (i:=i) (by omega) (by simp [Ie,h3])]
  · rename_i h1 h2 h3
    have hi':i<l.length:=by omega
    refine Ap (jQ 43 [0,3,4]) [] 200 l[i].length (fun k (_:Unit)=>⟨[.sl 1 (l.map bW) .none,.ud,.ud,.int .i64 (i:Nat),.int .i64 (k:Nat),.ud,.ud,.ud,.ud,.ud,.ud,.ud,.ud,.ud,.ud,.ud,.ud,.ud,.ud,.ud,.ud,.ud,.ud,.ud,.ud,.ud,.ud,.ud,.ud,.ud,.ud,.ud,.ud,.ud,.ud,.ud,.ud,.ud,.ud,.ud,.ud,.ud,.ud],[]⟩) (fun _ _=>⟨[],200⟩) (fun k _=>upTo (fun v:Vo=>yU v.l) l[i] k) () sS rfl rfl ?_
    rintro k y hk hQ2
    by_cases hkl:k<l[i].length
    · repeat' (first
    |simp -implicitDefEqProofs only[↓reduceIte,aB,aC,facts,Nat.reduceAdd,aJ6,getVo,bW,Vo.av, *]
    |simp -implicitDefEqProofs (disch:=first|assumption|omega) only[wrap_in, *]
    |((with_reducible refine aH (fun _=>?_) (fun _=>?_))<;>try omega)
    |((with_reducible refine dO (fun _=>?_) (fun _=>?_))<;>try omega)
    | ((with_reducible refine aT 15 ?_);refine PC.useZ hF (aCj _) (rfl) fun v hv=>?_;subst hv))
      · rename_i h4
        exact yF () hkl (sU hQ2 hkl h4) rfl rfl
      · rename_i h4
        rw[yV,Fq (i:=i) hi' (by rw[Ie,Fj (p:=fun v:Vo=>yU v.l) hkl h4,Bool.and_false])]
    · repeat' (first
    |simp -implicitDefEqProofs only[↓reduceIte,aB,aC,facts,Nat.reduceAdd,aJ6,bW, *]
    |simp -implicitDefEqProofs (disch:=first|assumption|omega) only[wrap_in, *]
    | ((with_reducible refine aH (fun _=>?_) (fun _=>?_))<;>try omega))
      have hall:=Fp (i:=k) (by omega) hQ2
      exact yF () (by omega) (sU hQ hi' (by rw[Ie,hall,Bool.and_true];simp only[Bool.not_eq_true',decide_eq_false_iff_not];omega)) rfl rfl
  · rename_i h1 h2
    rw[yV,zK (.inr (by omega)) hQ];rfl
  · rename_i h1
    rw[yV,zK (.inl (by omega)) hQ];rfl
def Pa.fewB (p:Pa):Bool:=!decide ((100:Int)< (p.name.size:Int)) && (yV p.cells && Fv p.dyns)
def Sc.fewB (s:Sc):Bool:=(!decide ((6:Int)< (s.bars.length:Int)) && (!decide ((4:Int)< (s.parts.length:Int)) && (!decide ((100:Int)< (s.title.size:Int)) && Ro s.bars))) && s.parts.all Pa.fewB
theorem aE3 (s:Sc):PC Tryz.prog gl 5 [s.av] (fun v=>v= .bool s.fewB):=by
 (refine PC.introZ 2 mix (fn:=Tryz.f5) Tryz.func5 rfl (names 5 _ Tryz.func5) fun F hF hro W=>?_;simp -implicitDefEqProofs only[Tryz.ntmps5,Tryz.results5,aI,Nat.reduceAdd,Nat.reduceSub])
 repeat' (first
  |simp -implicitDefEqProofs only[↓reduceIte,aB,aC,facts,Nat.reduceAdd,Nat.reduceLeDiff,Sc.av, *]
  |((with_reducible refine dO (fun _=>?_) (fun _=>?_))<;>try omega)
  |((with_reducible refine iH (fun _=>?_) (fun _=>?_))<;>try omega)
  |((with_reducible refine aT 12 ?_);refine PC.useZ hF (aCl _) (rfl) fun v hv=>?_;subst hv))
 all_goals first
  |grind[Sc.fewB]
  |skip
 refine Ap (jQ 55 [1,3]) [] 100 s.parts.length (fun i (_:Unit)=>⟨[.ud,.ptr 0 0,.ud,.int .i64 (i:Nat),.ud,.ud,.ud,.ud,.ud,.ud,.ud,.ud,.ud,.ud,.ud,.ud,.ud,.ud,.ud,.ud,.ud,.ud,.ud,.ud,.ud,.ud,.ud,.ud,.ud,.ud,.ud,.ud,.ud,.ud,.ud,.ud,.ud,.ud,.ud,.ud,.ud,.ud,.ud,.ud,.ud,.ud,.ud,.ud,.ud,.ud,.ud,.ud,.ud,.ud,.ud],[]⟩) (fun _ _=>⟨[(0,.cells [.str s.title,.sl 14 (s.bars.map Ba.av) .none,.sl 5 (s.parts.map Pa.av) .none])],100⟩) (fun i _=>upTo Pa.fewB s.parts i) () sS rfl rfl ?_
 rintro i x hi hQ
 by_cases hil:i<s.parts.length
 ·repeat' (first
  |simp -implicitDefEqProofs only[↓reduceIte,aB,aC,facts,Nat.reduceAdd,Nat.reduceEqDiff,Nat.reduceLeDiff,getPa,Pa.av, *]
  |simp -implicitDefEqProofs (disch:=first|assumption|omega) only[wrap_in, *]
  |((with_reducible refine aH (fun _=>?_) (fun _=>?_))<;>try omega)
  |((with_reducible refine dO (fun _=>?_) (fun _=>?_))<;>try omega)
  |((with_reducible refine iH (fun _=>?_) (fun _=>?_))<;>try omega)
  |((with_reducible refine iW (fun _=>?_) (fun _=>?_))<;>try omega)
  |((with_reducible refine aT 13 ?_);refine PC.useZ hF (aCm _) (rfl) fun v hv=>?_;subst hv)
  |((with_reducible refine aT 14 ?_);refine PC.useZ hF (aCk _) (rfl) fun v hv=>?_;subst hv))
  all_goals first
   |(rw[Sc.fewB,Fj (p:=Pa.fewB) hil (by grind[Pa.fewB]),Bool.and_false])
   |exact yF () hil (sU hQ hil (by grind[Pa.fewB])) rfl rfl
 ·repeat' (first
  |simp -implicitDefEqProofs only[↓reduceIte,aB,aC,facts,Nat.reduceAdd,Nat.reduceLeDiff, *]
  |((with_reducible refine aH (fun _=>?_) (fun _=>?_))<;>try omega))
  have hall:=Fp (i:=i) (by omega) hQ
  grind[Sc.fewB]
def aK.fewB (o:aK):Bool:=(!decide ((100:Int)< (o.text.size:Int)) && (!decide ((4:Int)< (o.cells.length:Int)) && (!decide ((4:Int)< (o.dyns.length:Int)) && (Ro o.bars && yU o.events)))) && (o.cells.all yV && o.dyns.all Fv)
theorem Xa (o:aK):PC Tryz.prog gl 6 [o.av] (fun v=>v= .bool o.fewB):=by
  (refine PC.introZ 2 mix (fn:=Tryz.f6) Tryz.func6 rfl (names 6 _ Tryz.func6) fun F hF hro W=>?_;simp -implicitDefEqProofs only[Tryz.ntmps6,Tryz.results6,aI,Nat.reduceAdd,Nat.reduceSub])
  repeat' (first
    |simp -implicitDefEqProofs only[↓reduceIte,aB,aC,facts,Nat.reduceAdd,Nat.reduceLeDiff,aK.av, *]
    |((with_reducible refine dO (fun _=>?_) (fun _=>?_))<;>try omega)
    |((with_reducible refine iH (fun _=>?_) (fun _=>?_))<;>try omega)
    |((with_reducible refine iW (fun _=>?_) (fun _=>?_))<;>try omega)
    |((with_reducible refine aT 12 ?_);refine PC.useZ hF (aCl _) (rfl) fun v hv=>?_;subst hv)
    |((with_reducible refine aT 15 ?_);refine PC.useZ hF (aCj _) (rfl) fun v hv=>?_;subst hv))
  all_goals first
    |grind[aK.fewB]
    |skip
  refine Ap (jQ 61 [1,3]) [] 100 o.cells.length (fun i (_:Unit)=>⟨[.ud,.ptr 0 0,.ud,.int .i64 (i:Nat),.ud,.ud,.ud,.ud,.ud,.ud,.ud,.ud,.ud,.ud,.ud,.ud,.ud,.ud,.ud,.ud,.ud,.ud,.ud,.ud,.ud,.ud,.ud,.ud,.ud,.ud,.ud,.ud,.ud,.ud,.ud,.ud,.ud,.ud,.ud,.ud,.ud,.ud,.ud,.ud,.ud,.ud,.ud,.ud,.ud,.ud,.ud,.ud,.ud,.ud,.ud,.ud,.ud,.ud,.ud,.ud,.ud],[]⟩) (fun _ _=>⟨[(0,.cells o.cells13)],100⟩) (fun i _=>upTo yV o.cells i) () sS rfl rfl ?_
  rintro i x hi hQ
  by_cases hil:i<o.cells.length
  · repeat' (first
    |simp -implicitDefEqProofs only[↓reduceIte,aB,aC,facts,Nat.reduceAdd,Nat.reduceLeDiff,getCs,aK.cells13,dJ, *]
    |simp -implicitDefEqProofs (disch:=first|assumption|omega) only[wrap_in, *]
    |((with_reducible refine aH (fun _=>?_) (fun _=>?_))<;>try omega)
    |((with_reducible refine dO (fun _=>?_) (fun _=>?_))<;>try omega)
    |((with_reducible refine aT 13 ?_);refine PC.useZ hF (aCm _) (rfl) fun v hv=>?_;subst hv))
    all_goals first
      |(rw[aK.fewB,Fj (p:=yV) hil (by assumption),Bool.false_and,Bool.and_false])
      |exact yF () hil (sU hQ hil (by assumption)) rfl rfl
  · repeat' (first
    |simp -implicitDefEqProofs only[↓reduceIte,aB,aC,facts,Nat.reduceAdd,Nat.reduceLeDiff,aK.cells13, *]
    |((with_reducible refine aH (fun _=>?_) (fun _=>?_))<;>try omega))
    refine Ap (jQ 61 [1,4]) [] 200 o.dyns.length (fun i (_:Unit)=>⟨[.ud,.ptr 0 0,.ud,.ud,.int .i64 (i:Nat),.ud,.ud,.ud,.ud,.ud,.ud,.ud,.ud,.ud,.ud,.ud,.ud,.ud,.ud,.ud,.ud,.ud,.ud,.ud,.ud,.ud,.ud,.ud,.ud,.ud,.ud,.ud,.ud,.ud,.ud,.ud,.ud,.ud,.ud,.ud,.ud,.ud,.ud,.ud,.ud,.ud,.ud,.ud,.ud,.ud,.ud,.ud,.ud,.ud,.ud,.ud,.ud,.ud,.ud,.ud,.ud],[]⟩) (fun _ _=>⟨[(0,.cells o.cells13)],200⟩) (fun i _=>upTo Fv o.dyns i) () sS rfl rfl ?_
    rintro k y hk hQ2
    by_cases hkl:k<o.dyns.length
    · repeat' (first
    |simp -implicitDefEqProofs only[↓reduceIte,aB,aC,facts,Nat.reduceAdd,Nat.reduceLeDiff,aUe,aK.cells13,dQ, *]
    |simp -implicitDefEqProofs (disch:=first|assumption|omega) only[wrap_in, *]
    |((with_reducible refine aH (fun _=>?_) (fun _=>?_))<;>try omega)
    |((with_reducible refine dO (fun _=>?_) (fun _=>?_))<;>try omega)
    | ((with_reducible refine aT 14 ?_);refine PC.useZ hF (aCk _) (rfl) fun v hv=>?_;subst hv))
      all_goals first
        |(rw[aK.fewB,Fj (p:=Fv) hkl (by assumption),Bool.and_false,Bool.and_false])
        |exact yF () hkl (sU hQ2 hkl (by assumption)) rfl rfl
    · repeat' (first
    |simp -implicitDefEqProofs only[↓reduceIte,aB,aC,facts,Nat.reduceAdd,Nat.reduceLeDiff,aK.cells13, *]
    | ((with_reducible refine aH (fun _=>?_) (fun _=>?_))<;>try omega))
      have hall:=Fp (i:=i) (by omega) hQ
      have hall2:=Fp (i:=k) (by omega) hQ2
      grind[aK.fewB]
end Go.Proofs.Pv
namespace Go.Proofs.Pv
open Go Go.Proofs
set_option maxRecDepth 100000
set_option maxHeartbeats 4000000
def Ba.cells14 (b:Ba):List AV:=[.int .i64 b.meter.num,.int .i64 b.meter.den,.sl 1 (b.meter.groups.map (AV.int .i64)) .none,.int .i64 b.key.fifths,.bool b.key.minor,
 .bool b.turn.begin_,.int .i64 b.turn.times,.sl 1 (b.turn.endings.map (AV.int .i64)) .none,.bool b.turn.sign,.bool b.turn.coda,.bool b.turn.tocoda,.bool b.turn.fine,.int .i64 b.turn.jump,.sl 4 (b.tempos.map Te.av) .none]
def Tu.cells8 (t:Tu):List AV:=[.bool t.begin_,.int .i64 t.times,.sl 1 (t.endings.map (AV.int .i64)) .none,.bool t.sign,.bool t.coda,.bool t.tocoda,.bool t.fine,.int .i64 t.jump]
theorem bF {P:Program} {ok:TypeId→List AV→Prop} {t:TypeId} {ts:List TypeId} {xs:List AV} (h:mJ P ok (t::ts) xs): ∃a b,xs=a++b∧ok t a∧mJ P ok ts b:=
 ⟨_,_,(List.take_append_drop _ _).symm,h.1,h.2⟩
theorem kZ {P:Program} {ok:TypeId→List AV→Prop} {xs:List AV} (h:mJ P ok [] xs):xs=[]:=h
theorem kR {P:Program} {d:Nat} {t e:TypeId} {cs:List AV} (hu:P.underlying t=some (.slice e)) (h:okV P (d+1) t cs): ∃rows,cs=[.sl (P.cellsOf e) rows .none]∧rows.length≤maxLen∧ ∀r∈rows,∃cs,r=mkRow P e cs∧okV P d e cs:=by
 rw[okV,hu] at h;exact h
theorem iT {P:Program} {d:Nat} {t:TypeId} {fs:Array Field} {cs:List AV} (hu:P.underlying t=some (.struct fs)) (h:okV P (d+1) t cs):mJ P (okV P d) (fs.toList.map (·.type)) cs:=by
 rw[okV,hu] at h;exact h
theorem iE {d:Nat} {cs:List AV} (h:okV Tryz.prog (d+1) 3 cs): ∃n,cs=[.int .i64 n]∧I64 n:=by
 simp only[okV,Tryz.underlying3] at h
 obtain⟨n,rfl,hw⟩:=h
 refine⟨n,rfl,?_⟩
 have e1:IntKind.i64.min= -9223372036854775808:=rfl
 have e2:IntKind.i64.max=9223372036854775807:=rfl
 simp only[Lit.wf,Bool.and_eq_true,decide_eq_true_eq,e1,e2] at hw
 unfold I64
 omega
theorem tY {d:Nat} {cs:List AV} (h:okV Tryz.prog (d+1) 4 cs): ∃b,cs=[.bool b]:=by
 simpa only[okV,Tryz.underlying4] using h
theorem Uu {d:Nat} {cs:List AV} (h:okV Tryz.prog (d+1) 9 cs): ∃s,cs=[.str s]:=by
 simp only[okV,Tryz.underlying9] at h
 obtain⟨s,rfl,hw⟩:=h
 exact⟨s,rfl⟩
theorem nN {α:Type} {f:α→AV} {Q:α→Prop}: ∀(rows:List AV),(∀r∈rows,∃a,r=f a∧Q a)→ ∃l:List α,rows=l.map f∧ ∀a∈l,Q a
 |[],_=>⟨[],rfl,fun a h=>by cases h⟩
 |r::rows,h=>by
  obtain⟨a,e1,q1⟩:=h r (by simp)
  obtain⟨l,f1,q2⟩:=nN rows fun x hx=>h x (by simp [hx])
  refine⟨a::l,by rw[e1,f1];rfl,fun x hx=>?_⟩
  rcases List.mem_cons.1 hx with rfl|hx
  ·exact q1
  ·exact q2 x hx
theorem aO7 {d:Nat} {cs:List AV} (h:okV Tryz.prog (d+1) 3 cs): ∃n:Int,cs=[.int .i64 n]∧True:=by obtain⟨n,e,_⟩:=iE h;exact⟨n,e,trivial⟩
theorem aL7 {d:Nat} {cs:List AV} (h:okV Tryz.prog (d+1) 4 cs): ∃n:Bool,cs=[.bool n]∧True:=by obtain⟨n,e⟩:=tY h;exact⟨n,e,trivial⟩
theorem Wy {d:Nat} {cs:List AV} (h:okV Tryz.prog (d+2) 48 cs): ∃l:List Int,cs=[.sl 1 (l.map (AV.int .i64)) .none]∧ ∀a∈l,True:=by
 obtain⟨rows,rfl,_,hr⟩:=kR Tryz.underlying48 h
 obtain⟨l,rfl,hq⟩:=nN (f:=(AV.int .i64)) (Q:=fun a:Int=>True) rows fun r hr'=>by
  obtain⟨c,rfl,hk⟩:=hr r hr'
  obtain⟨a,e1,q1⟩:=aO7 hk
  exact⟨a,by rw[e1];simp only[mkRow,ag3,Bool.false_eq_true,if_false];rfl,q1⟩
 exact⟨l,by rw[show Tryz.prog.cellsOf 3=1 from by kernel_rfl],hq⟩
theorem aL8 {d:Nat} {cs:List AV} (h:okV Tryz.prog (d+2) 47 cs): ∃l:List Bool,cs=[.sl 1 (l.map AV.bool) .none]∧ ∀a∈l,True:=by
 obtain⟨rows,rfl,_,hr⟩:=kR Tryz.underlying47 h
 obtain⟨l,rfl,hq⟩:=nN (f:=AV.bool) (Q:=fun a:Bool=>True) rows fun r hr'=>by
  obtain⟨c,rfl,hk⟩:=hr r hr'
  obtain⟨a,e1,q1⟩:=aL7 hk
  exact⟨a,by rw[e1];simp only[mkRow,ag4,Bool.false_eq_true,if_false];rfl,q1⟩
 exact⟨l,by rw[show Tryz.prog.cellsOf 4=1 from by kernel_rfl],hq⟩
theorem aTu {d:Nat} {cs:List AV} (h:okV Tryz.prog (d+2) 45 cs): ∃a:Va,cs=a.cells∧True:=by
 have t0:mJ Tryz.prog (okV Tryz.prog (d+1)) [3,3,3,3] cs:=iT Tryz.underlying45 h
 obtain⟨_,_,rfl,g0,t1⟩:=bF t0
 obtain⟨a,rfl,ia⟩:=iE g0
 obtain⟨_,_,rfl,g1,t2⟩:=bF t1
 obtain⟨b,rfl,ib⟩:=iE g1
 obtain⟨_,_,rfl,g2,t3⟩:=bF t2
 obtain⟨c,rfl,ic⟩:=iE g2
 obtain⟨_,_,rfl,g3,t4⟩:=bF t3
 obtain⟨e,rfl,ie⟩:=iE g3
 obtain rfl:=kZ t4
 exact⟨⟨a,b,c,e⟩,rfl,trivial⟩
theorem aTv {d:Nat} {cs:List AV} (h:okV Tryz.prog (d+2) 93 cs): ∃a:Pi,cs=[.int .i64 a.step,.int .i64 a.alter,.int .i64 a.octave]∧True:=by
 have t0:mJ Tryz.prog (okV Tryz.prog (d+1)) [3,3,3] cs:=iT Tryz.underlying93 h
 obtain⟨_,_,rfl,g0,t1⟩:=bF t0
 obtain⟨a,rfl,ia⟩:=iE g0
 obtain⟨_,_,rfl,g1,t2⟩:=bF t1
 obtain⟨b,rfl,ib⟩:=iE g1
 obtain⟨_,_,rfl,g2,t3⟩:=bF t2
 obtain⟨c,rfl,ic⟩:=iE g2
 obtain rfl:=kZ t3
 exact⟨⟨a,b,c⟩,rfl,trivial⟩
theorem aR7 {d:Nat} {cs:List AV} (h:okV Tryz.prog (d+3) 46 cs): ∃l:List Pi,cs=[.sl 3 (l.map Pi.av) .none]∧ ∀a∈l,True:=by
 obtain⟨rows,rfl,_,hr⟩:=kR Tryz.underlying46 h
 obtain⟨l,rfl,hq⟩:=nN (f:=Pi.av) (Q:=fun a:Pi=>True) rows fun r hr'=>by
  obtain⟨c,rfl,hk⟩:=hr r hr'
  obtain⟨a,e1,q1⟩:=aTv hk
  exact⟨a,by rw[e1];simp only[mkRow,ag93,if_true];rfl,q1⟩
 exact⟨l,by rw[show Tryz.prog.cellsOf 93=3 from by kernel_rfl],hq⟩
theorem aTw {d:Nat} {cs:List AV} (h:okV Tryz.prog (d+4) 50 cs): ∃a:Ev,cs=a.cells∧True:=by
 have t0:mJ Tryz.prog (okV Tryz.prog (d+3)) [3,46,47,45,48,9] cs:=iT Tryz.underlying50 h
 obtain⟨_,_,rfl,g0,t1⟩:=bF t0
 obtain⟨k,rfl,ik⟩:=iE g0
 obtain⟨_,_,rfl,g1,t2⟩:=bF t1
 obtain⟨p,rfl,qp⟩:=aR7 g1
 obtain⟨_,_,rfl,g2,t3⟩:=bF t2
 obtain⟨t,rfl,qt⟩:=aL8 g2
 obtain⟨_,_,rfl,g3,t4⟩:=bF t3
 obtain⟨v,rfl,qv⟩:=aTu g3
 obtain⟨_,_,rfl,g4,t5⟩:=bF t4
 obtain⟨m,rfl,qm⟩:=Wy g4
 obtain⟨_,_,rfl,g5,t6⟩:=bF t5
 obtain⟨w,rfl⟩:=Uu g5
 obtain rfl:=kZ t6
 exact⟨⟨k,p,t,v,m,w⟩,rfl,trivial⟩
theorem aH5 {d:Nat} {cs:List AV} (h:okV Tryz.prog (d+5) 28 cs): ∃l:List Ev,cs=[.sl 9 (l.map Ev.av) .none]∧ ∀a∈l,True:=by
 obtain⟨rows,rfl,_,hr⟩:=kR Tryz.underlying28 h
 obtain⟨l,rfl,hq⟩:=nN (f:=Ev.av) (Q:=fun a:Ev=>True) rows fun r hr'=>by
  obtain⟨c,rfl,hk⟩:=hr r hr'
  obtain⟨a,e1,q1⟩:=aTw hk
  exact⟨a,by rw[e1];simp only[mkRow,ag50,if_true];rfl,q1⟩
 exact⟨l,by rw[show Tryz.prog.cellsOf 50=9 from by kernel_rfl],hq⟩
theorem aTx {d:Nat} {cs:List AV} (h:okV Tryz.prog (d+6) 88 cs): ∃a:Vo,cs=[.sl 9 (a.l.map Ev.av) .none]∧True:=by
 have t0:mJ Tryz.prog (okV Tryz.prog (d+5)) [28] cs:=iT Tryz.underlying88 h
 obtain⟨_,_,rfl,g0,t1⟩:=bF t0
 obtain⟨l,rfl,ql⟩:=aH5 g0
 obtain rfl:=kZ t1
 exact⟨⟨l⟩,rfl,trivial⟩
theorem aR8 {d:Nat} {cs:List AV} (h:okV Tryz.prog (d+7) 94 cs): ∃l:List Vo,cs=[.sl 1 (l.map Vo.av) .none]∧ ∀a∈l,True:=by
 obtain⟨rows,rfl,_,hr⟩:=kR Tryz.underlying94 h
 obtain⟨l,rfl,hq⟩:=nN (f:=Vo.av) (Q:=fun a:Vo=>True) rows fun r hr'=>by
  obtain⟨c,rfl,hk⟩:=hr r hr'
  obtain⟨a,e1,q1⟩:=aTx hk
  exact⟨a,by rw[e1];simp only[mkRow,ag88,if_true];rfl,q1⟩
 exact⟨l,by rw[show Tryz.prog.cellsOf 88=1 from by kernel_rfl],hq⟩
theorem aTy {d:Nat} {cs:List AV} (h:okV Tryz.prog (d+7) 94 cs): ∃l:List Vo,cs=[bW l]∧True:=by obtain⟨l,e,_⟩:=aR8 h;exact⟨l,e,trivial⟩
theorem aH6 {d:Nat} {cs:List AV} (h:okV Tryz.prog (d+8) 57 cs): ∃l:List (List Vo),cs=[.sl 1 (l.map bW) .none]∧ ∀a∈l,True:=by
 obtain⟨rows,rfl,_,hr⟩:=kR Tryz.underlying57 h
 obtain⟨l,rfl,hq⟩:=nN (f:=bW) (Q:=fun a:(List Vo)=>True) rows fun r hr'=>by
  obtain⟨c,rfl,hk⟩:=hr r hr'
  obtain⟨a,e1,q1⟩:=aTy hk
  exact⟨a,by rw[e1];simp only[mkRow,ag94,Bool.false_eq_true,if_false];rfl,q1⟩
 exact⟨l,by rw[show Tryz.prog.cellsOf 94=1 from by kernel_rfl],hq⟩
theorem aO8 {d:Nat} {cs:List AV} (h:okV Tryz.prog (d+8) 57 cs): ∃l:List (List Vo),cs=[dJ l]∧True:=by obtain⟨l,e,_⟩:=aH6 h;exact⟨l,e,trivial⟩
theorem aO9 {d:Nat} {cs:List AV} (h:okV Tryz.prog (d+9) 29 cs): ∃l:List (List (List Vo)),cs=[.sl 1 (l.map dJ) .none]∧ ∀a∈l,True:=by
 obtain⟨rows,rfl,_,hr⟩:=kR Tryz.underlying29 h
 obtain⟨l,rfl,hq⟩:=nN (f:=dJ) (Q:=fun a:(List (List Vo))=>True) rows fun r hr'=>by
  obtain⟨c,rfl,hk⟩:=hr r hr'
  obtain⟨a,e1,q1⟩:=aO8 hk
  exact⟨a,by rw[e1];simp only[mkRow,ag57,Bool.false_eq_true,if_false];rfl,q1⟩
 exact⟨l,by rw[show Tryz.prog.cellsOf 57=1 from by kernel_rfl],hq⟩
theorem aL9 {d:Nat} {cs:List AV} (h:okV Tryz.prog (d+2) 107 cs): ∃a:Ra,cs=[.int .i64 a.num,.int .i64 a.den]∧a.fits:=by
 have t0:mJ Tryz.prog (okV Tryz.prog (d+1)) [3,3] cs:=iT Tryz.underlying107 h
 obtain⟨_,_,rfl,g0,t1⟩:=bF t0
 obtain⟨a,rfl,ia⟩:=iE g0
 obtain⟨_,_,rfl,g1,t2⟩:=bF t1
 obtain⟨b,rfl,ib⟩:=iE g1
 obtain rfl:=kZ t2
 exact⟨⟨a,b⟩,rfl,⟨ia,ib⟩⟩
theorem aTz {d:Nat} {cs:List AV} (h:okV Tryz.prog (d+3) 138 cs): ∃a:Te,cs=[.int .i64 a.at_.num,.int .i64 a.at_.den,.int .i64 a.micros,.bool a.ramp]∧a.at_.fits:=by
 have t0:mJ Tryz.prog (okV Tryz.prog (d+2)) [107,3,4] cs:=iT Tryz.underlying138 h
 obtain⟨_,_,rfl,g0,t1⟩:=bF t0
 obtain⟨r,rfl,qr⟩:=aL9 g0
 obtain⟨_,_,rfl,g1,t2⟩:=bF t1
 obtain⟨m,rfl,im⟩:=iE g1
 obtain⟨_,_,rfl,g2,t3⟩:=bF t2
 obtain⟨b,rfl⟩:=tY g2
 obtain rfl:=kZ t3
 exact⟨⟨r,m,b⟩,rfl,qr⟩
theorem aR9 {d:Nat} {cs:List AV} (h:okV Tryz.prog (d+4) 78 cs): ∃l:List Te,cs=[.sl 4 (l.map Te.av) .none]∧ ∀a∈l,a.at_.fits:=by
 obtain⟨rows,rfl,_,hr⟩:=kR Tryz.underlying78 h
 obtain⟨l,rfl,hq⟩:=nN (f:=Te.av) (Q:=fun a:Te=>a.at_.fits) rows fun r hr'=>by
  obtain⟨c,rfl,hk⟩:=hr r hr'
  obtain⟨a,e1,q1⟩:=aTz hk
  exact⟨a,by rw[e1];simp only[mkRow,aRk,if_true];rfl,q1⟩
 exact⟨l,by rw[show Tryz.prog.cellsOf 138=4 from by kernel_rfl],hq⟩
theorem aT0 {d:Nat} {cs:List AV} (h:okV Tryz.prog (d+3) 109 cs): ∃a:Dy,cs=[.int .i64 a.at_.num,.int .i64 a.at_.den,.int .i64 a.level,.bool a.hair]∧a.at_.fits:=by
 have t0:mJ Tryz.prog (okV Tryz.prog (d+2)) [107,3,4] cs:=iT Tryz.underlying109 h
 obtain⟨_,_,rfl,g0,t1⟩:=bF t0
 obtain⟨r,rfl,qr⟩:=aL9 g0
 obtain⟨_,_,rfl,g1,t2⟩:=bF t1
 obtain⟨m,rfl,im⟩:=iE g1
 obtain⟨_,_,rfl,g2,t3⟩:=bF t2
 obtain⟨b,rfl⟩:=tY g2
 obtain rfl:=kZ t3
 exact⟨⟨r,m,b⟩,rfl,qr⟩
theorem aSa {d:Nat} {cs:List AV} (h:okV Tryz.prog (d+4) 98 cs): ∃l:List Dy,cs=[.sl 4 (l.map Dy.av) .none]∧ ∀a∈l,a.at_.fits:=by
 obtain⟨rows,rfl,_,hr⟩:=kR Tryz.underlying98 h
 obtain⟨l,rfl,hq⟩:=nN (f:=Dy.av) (Q:=fun a:Dy=>a.at_.fits) rows fun r hr'=>by
  obtain⟨c,rfl,hk⟩:=hr r hr'
  obtain⟨a,e1,q1⟩:=aT0 hk
  exact⟨a,by rw[e1];simp only[mkRow,aRj,if_true];rfl,q1⟩
 exact⟨l,by rw[show Tryz.prog.cellsOf 109=4 from by kernel_rfl],hq⟩
theorem aT1 {d:Nat} {cs:List AV} (h:okV Tryz.prog (d+4) 98 cs): ∃l:List Dy,cs=[fF l]∧ ∀t∈l,t.at_.fits:=aSa h
theorem aH7 {d:Nat} {cs:List AV} (h:okV Tryz.prog (d+5) 58 cs): ∃l:List (List Dy),cs=[.sl 1 (l.map fF) .none]∧ ∀a∈l,(∀t∈a,t.at_.fits):=by
 obtain⟨rows,rfl,_,hr⟩:=kR Tryz.underlying58 h
 obtain⟨l,rfl,hq⟩:=nN (f:=fF) (Q:=fun a:(List Dy)=>(∀t∈a,t.at_.fits)) rows fun r hr'=>by
  obtain⟨c,rfl,hk⟩:=hr r hr'
  obtain⟨a,e1,q1⟩:=aT1 hk
  exact⟨a,by rw[e1];simp only[mkRow,ag98,Bool.false_eq_true,if_false];rfl,q1⟩
 exact⟨l,by rw[show Tryz.prog.cellsOf 98=1 from by kernel_rfl],hq⟩
theorem aT2 {d:Nat} {cs:List AV} (h:okV Tryz.prog (d+3) 73 cs): ∃a:Me,cs=[.int .i64 a.num,.int .i64 a.den,.sl 1 (a.groups.map (AV.int .i64)) .none]∧(I64 a.num∧I64 a.den):=by
 have t0:mJ Tryz.prog (okV Tryz.prog (d+2)) [3,3,48] cs:=iT Tryz.underlying73 h
 obtain⟨_,_,rfl,g0,t1⟩:=bF t0
 obtain⟨a,rfl,ia⟩:=iE g0
 obtain⟨_,_,rfl,g1,t2⟩:=bF t1
 obtain⟨b,rfl,ib⟩:=iE g1
 obtain⟨_,_,rfl,g2,t3⟩:=bF t2
 obtain⟨g,rfl,qg⟩:=Wy g2
 obtain rfl:=kZ t3
 exact⟨⟨a,b,g⟩,rfl,⟨ia,ib⟩⟩
theorem aT3 {d:Nat} {cs:List AV} (h:okV Tryz.prog (d+2) 75 cs): ∃a:Ke,cs=[.int .i64 a.fifths,.bool a.minor]∧True:=by
 have t0:mJ Tryz.prog (okV Tryz.prog (d+1)) [3,4] cs:=iT Tryz.underlying75 h
 obtain⟨_,_,rfl,g0,t1⟩:=bF t0
 obtain⟨a,rfl,ia⟩:=iE g0
 obtain⟨_,_,rfl,g1,t2⟩:=bF t1
 obtain⟨b,rfl⟩:=tY g1
 obtain rfl:=kZ t2
 exact⟨⟨a,b⟩,rfl,trivial⟩
theorem aT4 {d:Nat} {cs:List AV} (h:okV Tryz.prog (d+3) 77 cs): ∃a:Tu,cs=a.cells8∧True:=by
 have t0:mJ Tryz.prog (okV Tryz.prog (d+2)) [4,3,48,4,4,4,4,3] cs:=iT Tryz.underlying77 h
 obtain⟨_,_,rfl,g0,t1⟩:=bF t0
 obtain⟨b,rfl⟩:=tY g0
 obtain⟨_,_,rfl,g1,t2⟩:=bF t1
 obtain⟨t,rfl,it⟩:=iE g1
 obtain⟨_,_,rfl,g2,t3⟩:=bF t2
 obtain⟨e,rfl,qe⟩:=Wy g2
 obtain⟨_,_,rfl,g3,t4⟩:=bF t3
 obtain⟨s,rfl⟩:=tY g3
 obtain⟨_,_,rfl,g4,t5⟩:=bF t4
 obtain⟨c,rfl⟩:=tY g4
 obtain⟨_,_,rfl,g5,t6⟩:=bF t5
 obtain⟨o,rfl⟩:=tY g5
 obtain⟨_,_,rfl,g6,t7⟩:=bF t6
 obtain⟨f,rfl⟩:=tY g6
 obtain⟨_,_,rfl,g7,t8⟩:=bF t7
 obtain⟨j,rfl,ij⟩:=iE g7
 obtain rfl:=kZ t8
 exact⟨⟨b,t,e,s,c,o,f,j⟩,rfl,trivial⟩
def Ba.typed (b:Ba):Prop:=I64 b.meter.num∧I64 b.meter.den∧ ∀t∈b.tempos,t.at_.fits
theorem aT5 {d:Nat} {cs:List AV} (h:okV Tryz.prog (d+5) 80 cs): ∃a:Ba,cs=a.cells14∧a.typed:=by
 have t0:mJ Tryz.prog (okV Tryz.prog (d+4)) [73,75,77,78] cs:=iT Tryz.underlying80 h
 obtain⟨_,_,rfl,g0,t1⟩:=bF t0
 obtain⟨m,rfl,qm⟩:=aT2 g0
 obtain⟨_,_,rfl,g1,t2⟩:=bF t1
 obtain⟨k,rfl,qk⟩:=aT3 g1
 obtain⟨_,_,rfl,g2,t3⟩:=bF t2
 obtain⟨t,rfl,qt⟩:=aT4 g2
 obtain⟨_,_,rfl,g3,t4⟩:=bF t3
 obtain⟨e,rfl,qe⟩:=aR9 g3
 obtain rfl:=kZ t4
 exact⟨⟨m,k,t,e⟩,rfl,⟨qm.1,qm.2,qe⟩⟩
theorem aH8 {d:Nat} {cs:List AV} (h:okV Tryz.prog (d+6) 22 cs): ∃l:List Ba,cs=[.sl 14 (l.map Ba.av) .none]∧ ∀a∈l,a.typed:=by
 obtain⟨rows,rfl,_,hr⟩:=kR Tryz.underlying22 h
 obtain⟨l,rfl,hq⟩:=nN (f:=Ba.av) (Q:=fun a:Ba=>a.typed) rows fun r hr'=>by
  obtain⟨c,rfl,hk⟩:=hr r hr'
  obtain⟨a,e1,q1⟩:=aT5 hk
  exact⟨a,by rw[e1];simp only[mkRow,ag80,if_true];rfl,q1⟩
 exact⟨l,by rw[show Tryz.prog.cellsOf 80=14 from by kernel_rfl],hq⟩
def Pa.typed (p:Pa):Prop:= ∀d∈p.dyns,∀t∈d,t.at_.fits
theorem aT6 {d:Nat} {cs:List AV} (h:okV Tryz.prog (d+9) 60 cs): ∃a:Pa,cs=a.cells5∧a.typed:=by
 have t0:mJ Tryz.prog (okV Tryz.prog (d+8)) [9,3,3,57,58] cs:=iT Tryz.underlying60 h
 obtain⟨_,_,rfl,g0,t1⟩:=bF t0
 obtain⟨n,rfl⟩:=Uu g0
 obtain⟨_,_,rfl,g1,t2⟩:=bF t1
 obtain⟨c,rfl,ic⟩:=iE g1
 obtain⟨_,_,rfl,g2,t3⟩:=bF t2
 obtain⟨x,rfl,ix⟩:=iE g2
 obtain⟨_,_,rfl,g3,t4⟩:=bF t3
 obtain⟨e,rfl,qe⟩:=aH6 g3
 obtain⟨_,_,rfl,g4,t5⟩:=bF t4
 obtain⟨y,rfl,qy⟩:=aH7 g4
 obtain rfl:=kZ t5
 exact⟨⟨n,c,x,e,y⟩,rfl,qy⟩
theorem aSb {d:Nat} {cs:List AV} (h:okV Tryz.prog (d+10) 23 cs): ∃l:List Pa,cs=[.sl 5 (l.map Pa.av) .none]∧ ∀a∈l,a.typed:=by
 obtain⟨rows,rfl,_,hr⟩:=kR Tryz.underlying23 h
 obtain⟨l,rfl,hq⟩:=nN (f:=Pa.av) (Q:=fun a:Pa=>a.typed) rows fun r hr'=>by
  obtain⟨c,rfl,hk⟩:=hr r hr'
  obtain⟨a,e1,q1⟩:=aT6 hk
  exact⟨a,by rw[e1];simp only[mkRow,ag60,if_true];rfl,q1⟩
 exact⟨l,by rw[show Tryz.prog.cellsOf 60=5 from by kernel_rfl],hq⟩
structure Sc.typed (s:Sc):Prop where
 bars: ∀b∈s.bars,b.typed
 parts: ∀p∈s.parts,p.typed
theorem aT7 {d:Nat} {cs:List AV} (h:okV Tryz.prog (d+11) 25 cs): ∃a:Sc,cs=[.str a.title,.sl 14 (a.bars.map Ba.av) .none,.sl 5 (a.parts.map Pa.av) .none]∧a.typed:=by
 have t0:mJ Tryz.prog (okV Tryz.prog (d+10)) [9,22,23] cs:=iT Tryz.underlying25 h
 obtain⟨_,_,rfl,g0,t1⟩:=bF t0
 obtain⟨t,rfl⟩:=Uu g0
 obtain⟨_,_,rfl,g1,t2⟩:=bF t1
 obtain⟨b,rfl,qb⟩:=aH8 g1
 obtain⟨_,_,rfl,g2,t3⟩:=bF t2
 obtain⟨p,rfl,qp⟩:=aSb g2
 obtain rfl:=kZ t3
 exact⟨⟨t,b,p⟩,rfl,⟨qb,qp⟩⟩
theorem aT8 {d:Nat} {cs:List AV} (h:okV Tryz.prog (d+2) 27 cs): ∃a:(Int×Int×Int×Int),cs=[.int .i64 a.1,.int .i64 a.2.1,.int .i64 a.2.2.1,.int .i64 a.2.2.2]∧(I64 a.1∧I64 a.2.1∧I64 a.2.2.1∧I64 a.2.2.2):=by
 have t0:mJ Tryz.prog (okV Tryz.prog (d+1)) [3,3,3,3] cs:=iT Tryz.underlying27 h
 obtain⟨_,_,rfl,g0,t1⟩:=bF t0
 obtain⟨a,rfl,ia⟩:=iE g0
 obtain⟨_,_,rfl,g1,t2⟩:=bF t1
 obtain⟨b,rfl,ib⟩:=iE g1
 obtain⟨_,_,rfl,g2,t3⟩:=bF t2
 obtain⟨c,rfl,ic⟩:=iE g2
 obtain⟨_,_,rfl,g3,t4⟩:=bF t3
 obtain⟨e,rfl,ie⟩:=iE g3
 obtain rfl:=kZ t4
 exact⟨(a,b,c,e),rfl,⟨ia,ib,ic,ie⟩⟩
theorem aT9 {d:Nat} {cs:List AV} (h:okV Tryz.prog (d+2) 32 cs): ∃a:(Int×Int),cs=[.int .i64 a.1,.int .i64 a.2]∧True:=by
 have t0:mJ Tryz.prog (okV Tryz.prog (d+1)) [3,3] cs:=iT Tryz.underlying32 h
 obtain⟨_,_,rfl,g0,t1⟩:=bF t0
 obtain⟨a,rfl,ia⟩:=iE g0
 obtain⟨_,_,rfl,g1,t2⟩:=bF t1
 obtain⟨b,rfl,ib⟩:=iE g1
 obtain rfl:=kZ t2
 exact⟨(a,b),rfl,trivial⟩
structure aK.typed (o:aK):Prop where
 at_:I64 o.at_
 count:I64 o.count
theorem aMa {d:Nat} {cs:List AV} (h:okV Tryz.prog (d+11) 25 cs): ∃s:Sc,AV.agg cs=s.av∧s.typed:=by
 obtain⟨s,rfl,q⟩:=aT7 h
 exact⟨s,rfl,q⟩
end Go.Proofs.Pv
namespace Go.Proofs.Pv
open Go Go.Proofs
set_option maxRecDepth 100000
set_option maxHeartbeats 4000000
theorem xO {α:Type} {n:Nat} {p:α→Bool} {l:List α} (h:Fh n p l=true):l.length≤n∧ ∀x∈l,p x=true:=by
 simp only[Fh,Bool.and_eq_true,decide_eq_true_eq,List.all_eq_true] at h
 exact⟨by omega,h.2⟩
theorem aG3 {e:Ev} (h:e.fewB=true):e.small:=by
 simp only[Ev.fewB,Bool.and_eq_true,decide_eq_true_eq] at h
 exact⟨by omega,by omega,by omega⟩
theorem Fe {l:List Ev} (h:yU l=true):l.length≤12∧ ∀e∈l,e.small:=by
 obtain⟨h1,h2⟩:=xO h
 exact⟨h1,fun e he=>aG3 (h2 e he)⟩
structure FewS (s:Sc):Prop where
 small:s.small
 ends: ∀b∈s.bars,b.turn.endings.length≤1000000
 evs: ∀p∈s.parts,∀c∈p.cells,∀v∈c,v.l.length≤12
theorem Rf {s:Sc} (ht:s.typed) (h:s.fewB=true):FewS s:=by
 simp only[Sc.fewB,Bool.and_eq_true,Bool.not_eq_true',decide_eq_false_iff_not,List.all_eq_true] at h
 obtain⟨⟨h1,h2,h3,h4⟩,h5⟩:=h
 obtain⟨b1,b2⟩:=xO h4
 have hb: ∀b∈s.bars,b.meter.groups.length≤12∧b.turn.endings.length≤12∧b.tempos.length≤12:=by
  intro b hb
  have:=b2 b hb
  simp only[Ba.fewB,Bool.not_eq_true',Bool.or_eq_false_iff,decide_eq_false_iff_not] at this
  omega
 have hp: ∀p∈s.parts,(∀c∈p.cells,c.length≤4∧ ∀v∈c,v.l.length≤12∧ ∀e∈v.l,e.small)∧ ∀d∈p.dyns,d.length≤12:=by
  intro p hp
  have:=h5 p hp
  simp only[Pa.fewB,Bool.and_eq_true] at this
  obtain⟨_,q1,q2⟩:=this
  obtain⟨_,q3⟩:=xO q1
  obtain⟨_,q4⟩:=xO q2
  refine⟨fun c hc=>?_,fun d hd=>?_⟩
  ·have:=q3 c hc
   simp only[Ie,Bool.and_eq_true,Bool.not_eq_true',decide_eq_false_iff_not,List.all_eq_true] at this
   exact⟨by omega,fun v hv=>Fe (this.2 v hv)⟩
  ·have:=q4 d hd
   simp only[Ux,Bool.not_eq_true',decide_eq_false_iff_not] at this
   omega
 refine⟨⟨fun b hb'=>?_,fun p hp'=>⟨fun c hc=>?_,fun d hd=>?_⟩,by omega,by omega⟩,fun b hb'=>by have:=hb b hb';omega,fun p hp' c hc v hv=>(((hp p hp').1 c hc).2 v hv).1⟩
 ·have h:=hb b hb'
  have t:=ht.bars b hb'
  exact⟨by omega,t.1,t.2.1,by omega,t.2.2⟩
 ·have h:=(hp p hp').1 c hc
  exact⟨by omega,fun v hv=>⟨by have:=(h.2 v hv).1;omega,(h.2 v hv).2⟩⟩
 ·have h:=(hp p hp').2 d hd
  exact⟨by omega,ht.parts p hp' d hd⟩
theorem aPb {l es:List Ev} {a n:Nat} {e:Ev} (h:e∈jE l a n es):e∈l∨e∈es:=by
 simp only[jE,List.mem_append] at h
 rcases h with(h|h)|h
 ·exact .inl (List.mem_of_mem_take h)
 ·exact .inr h
 ·exact .inl (List.mem_of_mem_drop h)
end Go.Proofs.Pv
