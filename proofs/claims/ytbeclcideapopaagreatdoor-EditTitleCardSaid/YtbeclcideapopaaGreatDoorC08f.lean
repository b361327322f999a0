/-
Layer 8's check of a score: lists of pitches, places that rise, bars, parts.
Conditions: none but those that each statement names.
-/
import Derived.Test.YtbeclcideapopaaGreatDoorC08e
set_option linter.unusedVariables false
set_option linter.unusedSimpArgs false
set_option maxRecDepth 100000
set_option maxHeartbeats 16000000
namespace Go.Proofs.Pv
open Go Go.Proofs
def Pi.same (a b:Pi):Bool:=(a.step==b.step) && ((a.alter==b.alter) && (a.octave==b.octave))
theorem aKb (l:List Pi) (x:Pi) (hl:l.length<=1000000):PC Tryz.prog gl 122 [.sl 3 (l.map Pi.av) .none,x.av] (fun v=>v= .int .i64 (nV (fun y=>x.same y) l)):=by
 (refine PC.introY 2 mix (fn:=Tryz.f122) Tryz.func122 rfl (names 122 _ Tryz.func122) fun F hF hro W=>?_;simp only[Tryz.ntmps122,Tryz.results122,aI,Nat.reduceAdd,Nat.reduceSub])
 repeat' (simp -implicitDefEqProofs (disch:=first|assumption|omega) only[aA,aC,facts,Nat.reduceAdd,Int.reduceNeg,Pi.av, *])
 refine kC (fD 19 [0,3,7,8]) [] 100 l.length (fun i (_:Unit)=>⟨[.sl 3 (l.map Pi.av) .none,.ud,.ud,.ptr 0 0,.ud,.ud,.ud,.int .i64 (l.length:Nat),.int .i64 (i:Nat),.ud,.ud,.ud,.ud,.ud,.ud,.ud,.ud,.ud,.ud],[]⟩) (fun _ _=>⟨[(0,.cells [.int .i64 x.step,.int .i64 x.alter,.int .i64 x.octave])],100⟩) (fun i _=> ∀j,j<i-> ∀h:j<l.length,x.same l[j]=false) () oD rfl rfl ?_
 rintro i ⟨⟩ hi hQ
 repeat' (first
  |simp -implicitDefEqProofs (disch:=first|assumption|omega) only[aA,aC,facts,if_pos,Nat.reduceAdd,Int.reduceNeg,wrap_in,List.getElem?_eq_getElem,Pi.av, *]
  |((with_reducible refine aF (fun _=>?_) (fun _=>?_))<;>try omega)
  |((with_reducible refine dK (fun _=>?_) (fun _=>?_))<;>try omega)
  |((with_reducible refine fP ?_);refine gU _ rfl (by decide+kernel) ?_))
 ·rename_i h1 h2
  rw[zA (p:=fun y=>x.same y) (i:=i) (by omega) h2 fun j h h'=>hQ j h' h]
 ·rename_i h1 h2
  exact fH () (by omega) (lL hQ fun _=>h2) rfl rfl
 ·rename_i h1
  rw[xF (p:=fun y=>x.same y) fun j h=>hQ j (by omega) h]
theorem Qi (l:List Pi) (x:Pi) (hl:l.length<=1000000):PC Tryz.prog gl 79 [.sl 3 (l.map Pi.av) .none,x.av] (fun v=>v= .bool (l.any fun y=>x.same y)):=by
 (refine PC.introY 1 mix (fn:=Tryz.f79) Tryz.func79 rfl (names 79 _ Tryz.func79) fun F hF hro W=>?_;simp only[Tryz.ntmps79,Tryz.results79,aI,Nat.reduceAdd,Nat.reduceSub])
 repeat' (first
  |simp -implicitDefEqProofs (disch:=first|assumption|omega) only[aA,aC,facts,if_pos,Nat.reduceAdd,Pi.av, *]
  |((with_reducible refine dI 122 ?_);refine PC.useY hF (aKb l x hl) (rfl) fun v hv=>?_;subst hv))
 all_goals rw[Ik]
def aE5 (s:ByteArray):Ev:=⟨1,[⟨0,0,4⟩],[false],⟨0,0,0,0⟩,[],s⟩
theorem aE6 (s:ByteArray):(aE5 s).small:=⟨by show 1<=_;omega,by show 1<=_;omega,by show 0<=_;omega⟩
def nameB (s:ByteArray):Bool:=decide (s.size<=40) && (aE5 s).right
theorem aH9 (s:ByteArray):PC Tryz.prog gl 30 [.str s] (fun v=>v= .bool (nameB s)):=by
 (refine PC.introY 1 mix (fn:=Tryz.f30) Tryz.func30 rfl (names 30 _ Tryz.func30) fun F hF hro W=>?_;simp only[Tryz.ntmps30,Tryz.results30,aI,Nat.reduceAdd,Nat.reduceSub])
 repeat' (first
  |simp -implicitDefEqProofs (disch:=first|assumption|omega) only[aA,aC,facts,if_pos,Nat.reduceAdd,Nat.reduceLT,Nat.reduceLeDiff, *]
  |((with_reducible refine jI (fun _=>?_) (fun _=>?_))<;>try omega)
  |((with_reducible refine dI 68 ?_);refine PC.useY hF (uV (aE5 s) (aE6 s)) (rfl) fun v hv=>?_;subst hv))
 ·rename_i h
  have:decide (s.size<=40)=true:=decide_eq_true (by omega)
  rw[nameB,this,Bool.true_and]
 ·rename_i h
  have:decide (s.size<=40)=false:=decide_eq_false (by omega)
  rw[nameB,this,Bool.false_and]
theorem aS5 (t:Te):PC Tryz.prog gl 70 [t.av] (fun v=>v=t.at_.av):=by
 (refine PC.introY 1 mix (fn:=Tryz.f70) Tryz.func70 rfl (names 70 _ Tryz.func70) fun F hF hro W=>?_;simp only[Tryz.ntmps70,Tryz.results70,aI,Nat.reduceAdd,Nat.reduceSub])
 repeat' (simp -implicitDefEqProofs (disch:=first|assumption|omega) only[aA,aC,facts,if_pos,Nat.reduceAdd,Nat.reduceEqDiff,Nat.reduceLeDiff,Te.av,Ra.av, *])
theorem aP5 (t:Dy):PC Tryz.prog gl 118 [t.av] (fun v=>v=t.at_.av):=by
 (refine PC.introY 1 mix (fn:=Tryz.f118) Tryz.func118 rfl (names 118 _ Tryz.func118) fun F hF hro W=>?_;simp only[Tryz.ntmps118,Tryz.results118,aI,Nat.reduceAdd,Nat.reduceSub])
 repeat' (simp -implicitDefEqProofs (disch:=first|assumption|omega) only[aA,aC,facts,if_pos,Nat.reduceAdd,Nat.reduceEqDiff,Nat.reduceLeDiff,Dy.av,Ra.av, *])
def Te.odd (t:Te):Bool:=decide (t.micros<100000)||decide (t.micros>4000000)
def Dy.odd (t:Dy):Bool:=decide (t.level<1)||decide (t.level>127)
theorem aS6 (t:Te):PC Tryz.prog gl 71 [t.av] (fun v=>v= .bool t.odd):=by
 (refine PC.introY 1 mix (fn:=Tryz.f71) Tryz.func71 rfl (names 71 _ Tryz.func71) fun F hF hro W=>?_;simp only[Tryz.ntmps71,Tryz.results71,aI,Nat.reduceAdd,Nat.reduceSub])
 repeat' (first
  |simp -implicitDefEqProofs (disch:=first|assumption|omega) only[aA,aC,facts,if_pos,Nat.reduceAdd,Nat.reduceLeDiff,Te.av, *]
  |((with_reducible refine iD (fun _=>?_) (fun _=>?_))<;>try omega))
 all_goals first|grind[Te.odd]|(simp_all [Te.odd];done)|(simp [Te.odd, *];omega)
theorem aP6 (t:Dy):PC Tryz.prog gl 119 [t.av] (fun v=>v= .bool t.odd):=by
 (refine PC.introY 1 mix (fn:=Tryz.f119) Tryz.func119 rfl (names 119 _ Tryz.func119) fun F hF hro W=>?_;simp only[Tryz.ntmps119,Tryz.results119,aI,Nat.reduceAdd,Nat.reduceSub])
 repeat' (first
  |simp -implicitDefEqProofs (disch:=first|assumption|omega) only[aA,aC,facts,if_pos,Nat.reduceAdd,Nat.reduceLeDiff,Dy.av, *]
  |((with_reducible refine iD (fun _=>?_) (fun _=>?_))<;>try omega))
 all_goals first|grind[Dy.odd]|(simp_all [Dy.odd];done)|(simp [Dy.odd, *];omega)
theorem xO {α β:Type} {f:α->β} {l:List α} {i:Nat} (h:i<l.length):(l.take (i+1)).map f=(l.take i).map f++[f l[i]]:=by
 rw[List.take_add_one,List.getElem?_eq_getElem h,Option.toList_some,List.map_append];rfl
def tkS (n1:Nat) (k:Nat) (x:Tk):St:=match x with
 | .tok _=>⟨[(k,.tok)],n1⟩
 |_=>⟨[],n1⟩
theorem aGx (l:List Te) (hl:l.length<=1000000):PC Tryz.prog gl 74 [.sl 4 (l.map Te.av) .none,.fn 70 [] []] (fun v=>v= .sl 2 (l.map fun t=>t.at_.av) .none):=by
 (refine PC.introY 2 mix (fn:=Tryz.f74) Tryz.func74 rfl (names 74 _ Tryz.func74) fun F hF hro W=>?_;simp only[Tryz.ntmps74,Tryz.results74,aI,Nat.reduceAdd,Nat.reduceSub])
 repeat' (simp -implicitDefEqProofs (disch:=first|assumption|omega) only[aA,aC,facts,Nat.reduceAdd, *])
 refine kC (fD 21 [1,4,7,8,9]) [(4,100)] 101 l.length (fun i (x:Tk)=>⟨[.ud,.fn 70 [] [],.ud,.ud,.sl 2 ((l.take i).map fun t=>t.at_.av) x,.ud,.ud,.sl 4 (l.map Te.av) .none,.int .i64 (l.length:Nat),.int .i64 (i:Nat),.ud,.ud,.ud,.ud,.ud,.ud,.ud,.ud,.ud,.ud,.ud],[]⟩) (fun _ x=>tkS 101 100 x) (fun i x=>(x= .full/\i=0)\/x= .tok 100) .full (.inl ⟨rfl,rfl⟩) rfl rfl ?_
 rintro i x hi hQ
 have hlen:(l.take i).length=i:=by simp;omega
 rcases hQ with⟨rfl,rfl⟩|rfl
 all_goals repeat' (first
  |simp -implicitDefEqProofs (disch:=first|assumption|omega) only[aA,aC,facts,if_pos,Nat.reduceAdd,Nat.reduceEqDiff,Nat.reduceLT,Nat.reduceLeDiff,Int.reduceLE,Int.reduceAdd,tkS,hlen,wrap_in,List.getElem?_eq_getElem,Te.av,Ra.av, *]
  |((with_reducible refine aF (fun _=>?_) (fun _=>?_))<;>try omega)
  |((with_reducible refine dI 70 ?_);refine PC.useY hF (aS5 _) (rfl) fun v hv=>?_;subst hv))
 ·exact fH (.tok 100) (by omega) (.inr rfl) rfl (by simp only[xO (show 0<l.length by omega)];rfl)
 ·have e:l=[]:=List.length_eq_zero_iff.1 (by omega)
  subst e;rfl
 ·exact fH (.tok 100) (by omega) (.inr rfl) rfl (by simp only[xO (show i<l.length by omega)];rfl)
 ·rw[List.take_of_length_le (by omega)]
theorem aGy (l:List Dy) (hl:l.length<=1000000):PC Tryz.prog gl 120 [.sl 4 (l.map Dy.av) .none,.fn 118 [] []] (fun v=>v= .sl 2 (l.map fun t=>t.at_.av) .none):=by
 (refine PC.introY 2 mix (fn:=Tryz.f120) Tryz.func120 rfl (names 120 _ Tryz.func120) fun F hF hro W=>?_;simp only[Tryz.ntmps120,Tryz.results120,aI,Nat.reduceAdd,Nat.reduceSub])
 repeat' (simp -implicitDefEqProofs (disch:=first|assumption|omega) only[aA,aC,facts,Nat.reduceAdd, *])
 refine kC (fD 21 [1,4,7,8,9]) [(4,100)] 101 l.length (fun i (x:Tk)=>⟨[.ud,.fn 118 [] [],.ud,.ud,.sl 2 ((l.take i).map fun t=>t.at_.av) x,.ud,.ud,.sl 4 (l.map Dy.av) .none,.int .i64 (l.length:Nat),.int .i64 (i:Nat),.ud,.ud,.ud,.ud,.ud,.ud,.ud,.ud,.ud,.ud,.ud],[]⟩) (fun _ x=>tkS 101 100 x) (fun i x=>(x= .full/\i=0)\/x= .tok 100) .full (.inl ⟨rfl,rfl⟩) rfl rfl ?_
 rintro i x hi hQ
 have hlen:(l.take i).length=i:=by simp;omega
 rcases hQ with⟨rfl,rfl⟩|rfl
 all_goals repeat' (first
  |simp -implicitDefEqProofs (disch:=first|assumption|omega) only[aA,aC,facts,if_pos,Nat.reduceAdd,Nat.reduceEqDiff,Nat.reduceLT,Nat.reduceLeDiff,Int.reduceLE,Int.reduceAdd,tkS,hlen,wrap_in,List.getElem?_eq_getElem,Dy.av,Ra.av, *]
  |((with_reducible refine aF (fun _=>?_) (fun _=>?_))<;>try omega)
  |((with_reducible refine dI 118 ?_);refine PC.useY hF (aP5 _) (rfl) fun v hv=>?_;subst hv))
 ·exact fH (.tok 100) (by omega) (.inr rfl) rfl (by simp only[xO (show 0<l.length by omega)];rfl)
 ·have e:l=[]:=List.length_eq_zero_iff.1 (by omega)
  subst e;rfl
 ·exact fH (.tok 100) (by omega) (.inr rfl) rfl (by simp only[xO (show i<l.length by omega)];rfl)
 ·rw[List.take_of_length_le (by omega)]
def uX (l:List Ra) (len:Ra) (i:Nat):Bool:=(l.getD i ⟨0,0⟩).right && (decide (0<=(l.getD i ⟨0,0⟩).num) && (decide ((l.getD i ⟨0,0⟩).cmp len<0) && (decide (i=0)||decide ((l.getD (i - 1) ⟨0,0⟩).cmp (l.getD i ⟨0,0⟩)<0))))
def vN (l:List Ra) (len:Ra):Bool:=Cj l.length (uX l len)
theorem aCh (l:List Ra) (len:Ra) (hl:l.length<=1000000) (hf: ∀a∈l,a.fits) (hlen:len.fits):PC Tryz.prog gl 73 [.sl 2 (l.map Ra.av) .none,len.av] (fun v=>v= .bool (vN l len)):=by
 (refine PC.introY 2 mix (fn:=Tryz.f73) Tryz.func73 rfl (names 73 _ Tryz.func73) fun F hF hro W=>?_;simp only[Tryz.ntmps73,Tryz.results73,aI,Nat.reduceAdd,Nat.reduceSub])
 repeat' (simp -implicitDefEqProofs (disch:=first|assumption|omega) only[aA,aC,facts,Nat.reduceAdd,Ra.av, *])
 refine kC (fD 43 [0,3,7,8,9]) [] 100 l.length (fun i (_:Unit)=>⟨[.sl 2 (l.map Ra.av) .none,.ud,.ud,.ptr 0 0,.ud,.ud,.ud,.sl 2 (l.map Ra.av) .none,.int .i64 (l.length:Nat),.int .i64 (i:Nat),.ud,.ud,.ud,.ud,.ud,.ud,.ud,.ud,.ud,.ud,.ud,.ud,.ud,.ud,.ud,.ud,.ud,.ud,.ud,.ud,.ud,.ud,.ud,.ud,.ud,.ud,.ud,.ud,.ud,.ud,.ud,.ud,.ud],[]⟩) (fun _ _=>⟨[(0,.cells [.int .i64 len.num,.int .i64 len.den])],100⟩) (fun i _=> ∀j,j<i->uX l len j=true) () oD rfl rfl ?_
 rintro i ⟨⟩ hi hQ
 have hg: ∀(h:i<l.length),l.getD i ⟨0,0⟩=l[i]:=fun h=>by simp [h]
 have hg1: ∀(h:i - 1<l.length),l.getD (i - 1) ⟨0,0⟩=l[i - 1]:=fun h=>by simp [h]
 repeat' (first
  |simp -implicitDefEqProofs (disch:=first|assumption|omega) only[aA,aC,facts,if_pos,Nat.reduceAdd,Nat.reduceLeDiff,wrap_in,List.getElem?_eq_getElem,Ep,Ra.av, *]
  |((with_reducible refine jK 113 ?_);refine dL (lV l[i] (hf _ (List.getElem_mem (by omega)))) (rfl) ?_)
  |((with_reducible refine jK 114 ?_);refine dL (Ij l[i] len (hf _ (List.getElem_mem (by omega))) hlen) (rfl) ?_)
  |((with_reducible refine jK 114 ?_);refine dL (Ij (l[i - 1]'(by omega)) l[i] (hf _ (List.getElem_mem (by omega))) (hf _ (List.getElem_mem (by omega)))) (rfl) ?_)
  |((with_reducible refine aF (fun _=>?_) (fun _=>?_))<;>try omega)
  |((with_reducible refine xG (fun _=>?_) (fun _=>?_))<;>try omega)
  |((with_reducible refine uH (fun _=>?_) (fun _=>?_))<;>try omega)
  |((with_reducible refine Df (fun _=>?_) (fun _=>?_))<;>try omega)
  |((with_reducible refine fP ?_);refine gU _ rfl (by decide+kernel) ?_))
 ·rename_i h1 h2
  have e:=hg (by omega)
  have hr:uX l len i=false:=by rw[uX,e];simp_all
  rw[vN,pG (i:=i) (by omega) hr]
 ·rename_i h1 h2 h3
  have e:=hg (by omega)
  have hr:uX l len i=false:=by rw[uX,e,decide_eq_false (show¬0<=l[i].num by omega)];simp
  rw[vN,pG (i:=i) (by omega) hr]
 ·rename_i h1 h2 h3 h4
  have e:=hg (by omega)
  have hr:uX l len i=false:=by rw[uX,e,decide_eq_false (show¬l[i].cmp len<0 by omega)];simp
  rw[vN,pG (i:=i) (by omega) hr]
 ·rename_i h1 h2 h3 h4 h5 h6
  have e:=hg (by omega)
  have e1:=hg1 (by omega)
  have hr:uX l len i=false:=by rw[uX,e,e1,decide_eq_false (show¬l[i - 1].cmp l[i]<0 by omega),decide_eq_false (show¬i=0 by omega)];simp
  rw[vN,pG (i:=i) (by omega) hr]
 ·rename_i h1 h2 h3 h4 h5 h6
  have e:=hg (by omega)
  have e1:=hg1 (by omega)
  have h2':l[i].right=true:=by simpa using h2
  exact fH () (by omega) (lL hQ (by rw[uX,e,e1,h2',decide_eq_true (show 0<=l[i].num by omega),decide_eq_true (show l[i].cmp len<0 by omega),decide_eq_true (show l[i - 1].cmp l[i]<0 by omega)];simp)) rfl rfl
 ·rename_i h1 h2 h3 h4 h5
  have e:=hg (by omega)
  have h2':l[i].right=true:=by simpa using h2
  exact fH () (by omega) (lL hQ (by rw[uX,e,h2',decide_eq_true (show 0<=l[i].num by omega),decide_eq_true (show l[i].cmp len<0 by omega),decide_eq_true (show i=0 by omega)];simp)) rfl rfl
 ·rw[vN,Bd fun j hj=>hQ j (by omega)]
structure Ba.ok (b:Ba):Prop where
 groups:b.meter.groups.length<=1000000
 num:I64 b.meter.num
 den:I64 b.meter.den
 tempos:b.tempos.length<=1000000
 at_: ∀t∈b.tempos,t.at_.fits
def Ba.errR (b:Ba):Int:=
 if b.meter.lenR.2=0 then
  (if b.key.right=true then(if(vN (b.tempos.map fun t=>t.at_) b.meter.lenR.1 && !(b.tempos.any Te.odd))=true then 0 else 110) else 30)
 else b.meter.lenR.2
theorem aU1 (b:Ba) (h:b.ok):PC Tryz.prog gl 31 [b.av] (fun v=>v= .int .i64 b.errR):=by
 (refine PC.introY 1 mix (fn:=Tryz.f31) Tryz.func31 rfl (names 31 _ Tryz.func31) fun F hF hro W=>?_;simp only[Tryz.ntmps31,Tryz.results31,aI,Nat.reduceAdd,Nat.reduceSub])
 repeat' (first
  |simp -implicitDefEqProofs (disch:=first|assumption|omega) only[aA,aC,facts,if_pos,Nat.reduceAdd,Nat.reduceEqDiff,Nat.reduceLeDiff,Ba.av,pF, *]
  |((with_reducible refine jK 74 ?_);refine dL (aGx b.tempos h.tempos) (rfl) ?_)
  |((with_reducible refine jK 73 ?_);refine dL (aCh (b.tempos.map fun t=>t.at_) b.meter.lenR.1 (by simpa using h.tempos) (fun a ha=>by obtain⟨t,ht,rfl⟩:=List.mem_map.1 ha;exact h.at_ t ht) Vj) ((by simp only[List.map_cons,List.map_nil,List.map_map];rfl)) ?_)
  |((with_reducible refine jK 75 ?_);refine dL (Vg b.tempos _ [] Te.odd h.tempos rfl rfl (fun _=>rfl) (fun a _=>aS6 a)) (rfl) ?_)
  |((with_reducible refine dS (fun _=>?_) (fun _=>?_))<;>try omega)
  |((with_reducible refine dK (fun _=>?_) (fun _=>?_))<;>try omega)
  |((with_reducible refine Df (fun _=>?_) (fun _=>?_))<;>try omega)
  |((with_reducible refine fP ?_);refine gU _ rfl (by decide+kernel) ?_)
  |((with_reducible refine dI 69 ?_);refine PC.useY hF (Js b.meter h.groups h.num h.den) (rfl) fun v hv=>?_;subst hv)
  |((with_reducible refine dI 72 ?_);refine PC.useY hF (Ag b.key) (rfl) fun v hv=>?_;subst hv))
 all_goals simp_all [Ba.errR]
theorem aS7 (l:List Dy) (len:Ra) (hl:l.length<=1000000) (hf: ∀t∈l,t.at_.fits) (hlen:len.fits):PC Tryz.prog gl 77 [.sl 4 (l.map Dy.av) .none,len.av] (fun v=>v= .int .i64 (if(vN (l.map fun t=>t.at_) len && !(l.any Dy.odd))=true then 0 else 120)):=by
 (refine PC.introY 1 mix (fn:=Tryz.f77) Tryz.func77 rfl (names 77 _ Tryz.func77) fun F hF hro W=>?_;simp only[Tryz.ntmps77,Tryz.results77,aI,Nat.reduceAdd,Nat.reduceSub])
 repeat' (first
  |simp -implicitDefEqProofs (disch:=first|assumption|omega) only[aA,aC,facts,if_pos,Nat.reduceAdd,Ra.av, *]
  |((with_reducible refine jK 120 ?_);refine dL (aGy l hl) (rfl) ?_)
  |((with_reducible refine jK 73 ?_);refine dL (aCh (l.map fun t=>t.at_) len (by simpa using hl) (fun a ha=>by obtain⟨t,ht,rfl⟩:=List.mem_map.1 ha;exact hf t ht) hlen) ((by simp only[List.map_cons,List.map_nil,List.map_map];rfl)) ?_)
  |((with_reducible refine jK 121 ?_);refine dL (Vh l _ [] Dy.odd hl rfl rfl (fun _=>rfl) (fun a _=>aP6 a)) (rfl) ?_)
  |((with_reducible refine dK (fun _=>?_) (fun _=>?_))<;>try omega)
  |((with_reducible refine Df (fun _=>?_) (fun _=>?_))<;>try omega)
  |((with_reducible refine fP ?_);refine gU _ rfl (by decide+kernel) ?_))
 all_goals simp_all
def Pa.right (p:Pa) (bars:Int):Bool:=nameB p.name && (decide (0<=p.clef/\p.clef<=3/\0<=p.channel/\p.channel<16) && (decide ((p.cells.length:Int)=bars) && decide ((p.dyns.length:Int)=bars)))
theorem aCi (p:Pa) (bars:Int):PC Tryz.prog gl 32 [p.av,.int .i64 bars] (fun v=>v= .int .i64 (if p.right bars=true then 0 else 80)):=by
 (refine PC.introY 1 mix (fn:=Tryz.f32) Tryz.func32 rfl (names 32 _ Tryz.func32) fun F hF hro W=>?_;simp only[Tryz.ntmps32,Tryz.results32,aI,Nat.reduceAdd,Nat.reduceSub])
 repeat' (first
  |simp -implicitDefEqProofs (disch:=first|assumption|omega) only[aA,aC,facts,if_pos,Nat.reduceAdd,Nat.reduceLeDiff,Pa.av, *]
  |((with_reducible refine dK (fun _=>?_) (fun _=>?_))<;>try omega)
  |((with_reducible refine iD (fun _=>?_) (fun _=>?_))<;>try omega)
  |((with_reducible refine jO (fun _=>?_) (fun _=>?_))<;>try omega)
  |((with_reducible refine dI 30 ?_);refine PC.useY hF (aH9 p.name) (rfl) fun v hv=>?_;subst hv))
 all_goals trace_state
 all_goals first|grind[Pa.right]|(simp_all [Pa.right];done)|(simp [Pa.right, *];omega)
theorem Pn {i:Nat}:((i:Int)+1).toNat=i+1:=by omega
def sO (e next:Ev) (is:Bool) (i:Nat):Bool:=!(e.ties.getD i false)||(is && (next.pitches.any fun y=>(e.pitches.getD i ⟨0,0,0⟩).same y))
def zJ (e next:Ev) (is:Bool):Bool:=Cj e.pitches.length (sO e next is)
theorem aQu (e next:Ev) (is:Bool) (hs:e.small) (hn:next.small) (ht:e.ties.length=e.pitches.length):PC Tryz.prog gl 36 [e.av,next.av,.bool is] (fun v=>v= .bool (zJ e next is)):=by
 obtain⟨hs1,hs2,hs3⟩:=hs
 (refine PC.introY 2 mix (fn:=Tryz.f36) Tryz.func36 rfl (names 36 _ Tryz.func36) fun F hF hro W=>?_;simp only[Tryz.ntmps36,Tryz.results36,aI,Nat.reduceAdd,Nat.reduceSub])
 repeat' (simp -implicitDefEqProofs (disch:=first|assumption|omega) only[aA,aC,facts,if_pos,Nat.reduceAdd,Nat.reduceLeDiff,Ev.av, *])
 refine kC (fD 34 [2,3,4,10,11,12]) [] 200 e.pitches.length (fun i (_:Unit)=>⟨[.ud,.ud,.bool is,.ptr 0 0,.ptr 1 0,.ud,.ud,.ud,.ud,.ud,.sl 3 (e.pitches.map Pi.av) .none,.int .i64 (e.pitches.length:Nat),.int .i64 (i:Nat),.ud,.ud,.ud,.ud,.ud,.ud,.ud,.ud,.ud,.ud,.ud,.ud,.ud,.ud,.ud,.ud,.ud,.ud,.ud,.ud,.ud],[]⟩) (fun _ _=>⟨[(1,.cells next.cells),(0,.cells e.cells)],200⟩) (fun i _=> ∀j,j<i->sO e next is j=true) () oD rfl rfl ?_
 rintro i ⟨⟩ hi hQ
 have hg: ∀(h:i<e.pitches.length),e.pitches.getD i ⟨0,0,0⟩=e.pitches[i]:=fun h=>by simp [h]
 have hg1: ∀(h:i<e.ties.length),e.ties.getD i false=e.ties[i]:=fun h=>by simp [h]
 repeat' (first
  |simp -implicitDefEqProofs (disch:=first|assumption|omega) only[aA,aC,facts,if_pos,Nat.reduceAdd,Nat.reduceLeDiff,wrap_in,List.getElem?_eq_getElem,Pi.av,Ev.cells, *]
  |((with_reducible refine aF (fun _=>?_) (fun _=>?_))<;>try omega)
  |((with_reducible refine dS (fun _=>?_) (fun _=>?_))<;>try omega)
  |((with_reducible refine jO (fun _=>?_) (fun _=>?_))<;>try omega)
  |((with_reducible refine rF (fun _=>?_) (fun _=>?_))<;>try omega)
  |((with_reducible refine dI 79 ?_);refine PC.useY hF (Qi next.pitches _ hn.1) (rfl) fun v hv=>?_;subst hv))
 ·rename_i h1 h2 h3
  have e1:=hg1 (by omega)
  have hr:sO e next is i=false:=by rw[sO,e1,h2];simp_all
  rw[zJ,pG (i:=i) (by omega) hr]
 ·rename_i h1 h2 h3 h4
  have e0:=hg (by omega)
  have e1:=hg1 (by omega)
  exact fH () (by omega) (lL hQ (by rw[sO,e0,e1,h2,h4];simp_all)) rfl rfl
 ·rename_i h1 h2 h3 h4
  have e0:=hg (by omega)
  have e1:=hg1 (by omega)
  have hr:sO e next is i=false:=by rw[sO,e0,e1,h2,h4];simp
  rw[zJ,pG (i:=i) (by omega) hr]
 ·rename_i h1 h2
  have e1:=hg1 (by omega)
  exact fH () (by omega) (lL hQ (by rw[sO,e1,h2];rfl)) rfl rfl
 ·rw[zJ,Bd fun j hj=>hQ j (by omega)]
def qK (a b c d:Int):AV:= .agg [.int .i64 a,.int .i64 b,.int .i64 c,.int .i64 d]
def qX:Ev:=⟨0,[],[],⟨0,0,0,0⟩,[],⟨#[]⟩⟩
def partAt (s:Sc) (i:Nat):Pa:=s.parts.getD i ⟨⟨#[]⟩,0,0,[],[]⟩
def cellAt (s:Sc) (i k:Nat):List Vo:=(partAt s i).cells.getD k []
def aFu (s:Sc) (i k v n:Nat):Ev:=((cellAt s i k).getD v ⟨[]⟩).l.getD n qX
def sQ (s:Sc) (i k v:Nat):Bool:=decide (k+1<s.bars.length) && decide (v< (cellAt s i (k+1)).length)
def vG (s:Sc) (i k v:Nat):Ev:=if sQ s i k v=true then aFu s i (k+1) v 0 else qX
theorem getD_at {α:Type} {l:List α} {i:Nat} {d:α} (h:i<l.length):l.getD i d=l[i]:=by simp [h]
theorem aOf (s:Sc) (i k v:Nat) (n:Int) (hi:i<s.parts.length) (hb:s.bars.length<=1000000) (hk:k<s.bars.length) (hc:(partAt s i).cells.length=s.bars.length) (hv:v<=1000000)
    (hne: ∀w∈cellAt s i (k+1),0<w.l.length):
    PC Tryz.prog gl 35 [s.av,qK i k v n] (fun w=>w= .tup [(vG s i k v).av,.bool (sQ s i k v)]):=by
  have e1:partAt s i=s.parts[i]:=getD_at hi
  rw[e1] at hc
  by_cases h1:k+1<s.bars.length
  · have h1':k+1<s.parts[i].cells.length:=by omega
    have e2:cellAt s i (k+1)=s.parts[i].cells[k+1]:=by rw[cellAt,e1];exact getD_at h1'
    rw[e2] at hne
    by_cases h2:v<s.parts[i].cells[k+1].length
    · have h3:=hne _ (List.getElem_mem h2)
      have q1:sQ s i k v=true:=by simp only[sQ,e2,h1,h2,decide_true,Bool.and_self]
      have q2:vG s i k v=(s.parts[i].cells[k+1][v]).l[0]:=by
        simp only[vG,q1,if_true,aFu,e2]
        rw[getD_at h2,getD_at h3]
      (refine PC.introY 1 mix (fn:=Tryz.f35) Tryz.func35 rfl (names 35 _ Tryz.func35) fun F hF hro W=>?_;simp only[Tryz.ntmps35,Tryz.results35,aI,Nat.reduceAdd,Nat.reduceSub])
      repeat' (first
    |simp -implicitDefEqProofs (disch:=first|assumption|omega) only[aA,aC,facts,if_pos,if_neg,Nat.reduceAdd,Nat.reduceEqDiff,Nat.reduceLT,Nat.reduceLeDiff,Int.reduceLE,Sc.av,qK,Pa.av,bU,Vo.av,Ev.av,wrap_in,List.getElem?_eq_getElem,Pn,q1,q2, *]
    |((with_reducible refine aF (fun _=>?_) (fun _=>?_))<;>try omega)
    |((with_reducible refine xG (fun _=>?_) (fun _=>?_))<;>try omega)
    |((with_reducible refine fP ?_);refine gU _ rfl (by decide+kernel) ?_)
    | ((with_reducible refine fP ?_);refine Xc (by decide+kernel) ?_))
      decide+kernel
    · have q1:sQ s i k v=false:=by simp only[sQ,e2,h2,decide_false,Bool.and_false]
      have q2:vG s i k v=qX:=by simp only[vG,q1,Bool.false_eq_true,if_false]
      (refine PC.introY 1 mix (fn:=Tryz.f35) Tryz.func35 rfl (names 35 _ Tryz.func35) fun F hF hro W=>?_;simp only[Tryz.ntmps35,Tryz.results35,aI,Nat.reduceAdd,Nat.reduceSub])
      repeat' (first
    |simp -implicitDefEqProofs (disch:=first|assumption|omega) only[aA,aC,facts,if_pos,Nat.reduceAdd,Nat.reduceLT,Nat.reduceLeDiff,Sc.av,qK,Pa.av,bU,Ev.av,wrap_in,List.getElem?_eq_getElem,Pn,q1,q2,qX, *]
    |((with_reducible refine aF (fun _=>?_) (fun _=>?_))<;>try omega)
    |((with_reducible refine xG (fun _=>?_) (fun _=>?_))<;>try omega)
    |((with_reducible refine fP ?_);refine gU _ rfl (by decide+kernel) ?_))
  · have q1:sQ s i k v=false:=by simp only[sQ,h1,decide_false,Bool.false_and]
    have q2:vG s i k v=qX:=by simp only[vG,q1,Bool.false_eq_true,if_false]
    (refine PC.introY 1 mix (fn:=Tryz.f35) Tryz.func35 rfl (names 35 _ Tryz.func35) fun F hF hro W=>?_;simp only[Tryz.ntmps35,Tryz.results35,aI,Nat.reduceAdd,Nat.reduceSub])
    repeat' (first
    |simp -implicitDefEqProofs (disch:=first|assumption|omega) only[aA,aC,facts,if_pos,Nat.reduceAdd,Nat.reduceLeDiff,Sc.av,qK,Ev.av,wrap_in,q1,q2,qX, *]
    |((with_reducible refine xG (fun _=>?_) (fun _=>?_))<;>try omega)
    |((with_reducible refine fP ?_);refine gU _ rfl (by decide+kernel) ?_))
end Go.Proofs.Pv
