/-
Layer 8's check of a score: lists of pitches, places that rise, bars, parts.
Conditions: none but those that each statement names.
-/
import Derived.Test.YtlcnbhiklpfpjaaGreatDoorC08e
set_option linter.unusedVariables false
set_option linter.unusedSimpArgs false
set_option maxRecDepth 100000
set_option maxHeartbeats 16000000
namespace Go.Proofs.Pv
open Go Go.Proofs
def Pi.same (a b:Pi):Bool:=(a.step==b.step) && ((a.alter==b.alter) && (a.octave==b.octave))
theorem aK4 (l:List Pi) (x:Pi) (hl:l.length<=1000000):PC Tryz.prog gl 123 [.sl 3 (l.map Pi.av) .none,x.av] (fun v=>v= .int .i64 (oJ (fun y=>x.same y) l)):=by
 (refine PC.introY 2 mix (fn:=Tryz.f123) Tryz.func123 rfl (names 123 _ Tryz.func123) fun F hF hro W=>?_;simp only[Tryz.ntmps123,Tryz.results123,aJ,Nat.reduceAdd,Nat.reduceSub])
 repeat' (simp -implicitDefEqProofs (disch:=first|assumption|omega) only[aA,aC,facts,Nat.reduceAdd,Int.reduceNeg,Pi.av, *])
 refine kL (fD 19 [0,3,7,8]) [] 100 l.length (fun i (_:Unit)=>⟨[.sl 3 (l.map Pi.av) .none,.ud,.ud,.ptr 0 0,.ud,.ud,.ud,.int .i64 (l.length:Nat),.int .i64 (i:Nat),.ud,.ud,.ud,.ud,.ud,.ud,.ud,.ud,.ud,.ud],[]⟩) (fun _ _=>⟨[(0,.cells [.int .i64 x.step,.int .i64 x.alter,.int .i64 x.octave])],100⟩) (fun i _=> ∀j,j<i-> ∀h:j<l.length,x.same l[j]=false) () oO rfl rfl ?_
 rintro i ⟨⟩ hi hQ
 repeat' (first
  |simp -implicitDefEqProofs (disch:=first|assumption|omega) only[aA,aC,facts,if_pos,Nat.reduceAdd,Int.reduceNeg,wrap_in,List.getElem?_eq_getElem,Pi.av, *]
  |((with_reducible refine aF (fun _=>?_) (fun _=>?_))<;>try omega)
  |((with_reducible refine dL (fun _=>?_) (fun _=>?_))<;>try omega)
  |((with_reducible refine fQ ?_);refine gZ _ rfl (by decide+kernel) ?_))
 ·rename_i h1 h2
  rw[zW (p:=fun y=>x.same y) (i:=i) (by omega) h2 fun j h h'=>hQ j h' h]
 ·rename_i h1 h2
  exact fJ () (by omega) (lX hQ fun _=>h2) rfl rfl
 ·rename_i h1
  rw[yB (p:=fun y=>x.same y) fun j h=>hQ j (by omega) h]
theorem Rl (l:List Pi) (x:Pi) (hl:l.length<=1000000):PC Tryz.prog gl 80 [.sl 3 (l.map Pi.av) .none,x.av] (fun v=>v= .bool (l.any fun y=>x.same y)):=by
 (refine PC.introY 1 mix (fn:=Tryz.f80) Tryz.func80 rfl (names 80 _ Tryz.func80) fun F hF hro W=>?_;simp only[Tryz.ntmps80,Tryz.results80,aJ,Nat.reduceAdd,Nat.reduceSub])
 repeat' (first
  |simp -implicitDefEqProofs (disch:=first|assumption|omega) only[aA,aC,facts,if_pos,Nat.reduceAdd,Pi.av, *]
  |((with_reducible refine dI 123 ?_);refine PC.useY hF (aK4 l x hl) (rfl) fun v hv=>?_;subst hv))
 all_goals rw[Jf]
def aFv (s:ByteArray):Ev:=⟨1,[⟨0,0,4⟩],[false],⟨0,0,0,0⟩,[],s⟩
theorem aFw (s:ByteArray):(aFv s).small:=⟨by show 1<=_;omega,by show 1<=_;omega,by show 0<=_;omega⟩
def nameB (s:ByteArray):Bool:=decide (s.size<=40) && (aFv s).right
theorem aI1 (s:ByteArray):PC Tryz.prog gl 30 [.str s] (fun v=>v= .bool (nameB s)):=by
 (refine PC.introY 1 mix (fn:=Tryz.f30) Tryz.func30 rfl (names 30 _ Tryz.func30) fun F hF hro W=>?_;simp only[Tryz.ntmps30,Tryz.results30,aJ,Nat.reduceAdd,Nat.reduceSub])
 repeat' (first
  |simp -implicitDefEqProofs (disch:=first|assumption|omega) only[aA,aC,facts,if_pos,Nat.reduceAdd,Nat.reduceLT,Nat.reduceLeDiff, *]
  |((with_reducible refine jE (fun _=>?_) (fun _=>?_))<;>try omega)
  |((with_reducible refine dI 69 ?_);refine PC.useY hF (vP (aFv s) (aFw s)) (rfl) fun v hv=>?_;subst hv))
 ·rename_i h
  have:decide (s.size<=40)=true:=decide_eq_true (by omega)
  rw[nameB,this,Bool.true_and]
 ·rename_i h
  have:decide (s.size<=40)=false:=decide_eq_false (by omega)
  rw[nameB,this,Bool.false_and]
theorem aT1 (t:Te):PC Tryz.prog gl 71 [t.av] (fun v=>v=t.at_.av):=by
 (refine PC.introY 1 mix (fn:=Tryz.f71) Tryz.func71 rfl (names 71 _ Tryz.func71) fun F hF hro W=>?_;simp only[Tryz.ntmps71,Tryz.results71,aJ,Nat.reduceAdd,Nat.reduceSub])
 repeat' (simp -implicitDefEqProofs (disch:=first|assumption|omega) only[aA,aC,facts,if_pos,Nat.reduceAdd,Nat.reduceEqDiff,Nat.reduceLeDiff,Te.av,Ra.av, *])
theorem aQ0 (t:Dy):PC Tryz.prog gl 119 [t.av] (fun v=>v=t.at_.av):=by
 (refine PC.introY 1 mix (fn:=Tryz.f119) Tryz.func119 rfl (names 119 _ Tryz.func119) fun F hF hro W=>?_;simp only[Tryz.ntmps119,Tryz.results119,aJ,Nat.reduceAdd,Nat.reduceSub])
 repeat' (simp -implicitDefEqProofs (disch:=first|assumption|omega) only[aA,aC,facts,if_pos,Nat.reduceAdd,Nat.reduceEqDiff,Nat.reduceLeDiff,Dy.av,Ra.av, *])
def Te.odd (t:Te):Bool:=decide (t.micros<100000)||decide (t.micros>4000000)
def Dy.odd (t:Dy):Bool:=decide (t.level<1)||decide (t.level>127)
theorem aT2 (t:Te):PC Tryz.prog gl 72 [t.av] (fun v=>v= .bool t.odd):=by
 (refine PC.introY 1 mix (fn:=Tryz.f72) Tryz.func72 rfl (names 72 _ Tryz.func72) fun F hF hro W=>?_;simp only[Tryz.ntmps72,Tryz.results72,aJ,Nat.reduceAdd,Nat.reduceSub])
 repeat' (first
  |simp -implicitDefEqProofs (disch:=first|assumption|omega) only[aA,aC,facts,if_pos,Nat.reduceAdd,Nat.reduceLeDiff,Te.av, *]
  |((with_reducible refine iH (fun _=>?_) (fun _=>?_))<;>try omega))
 all_goals first|grind[Te.odd]|(simp_all [Te.odd];done)|(simp [Te.odd, *];omega)
theorem aQ1 (t:Dy):PC Tryz.prog gl 120 [t.av] (fun v=>v= .bool t.odd):=by
 (refine PC.introY 1 mix (fn:=Tryz.f120) Tryz.func120 rfl (names 120 _ Tryz.func120) fun F hF hro W=>?_;simp only[Tryz.ntmps120,Tryz.results120,aJ,Nat.reduceAdd,Nat.reduceSub])
 repeat' (first
  |simp -implicitDefEqProofs (disch:=first|assumption|omega) only[aA,aC,facts,if_pos,Nat.reduceAdd,Nat.reduceLeDiff,Dy.av, *]
  |((with_reducible refine iH (fun _=>?_) (fun _=>?_))<;>try omega))
 all_goals first|grind[Dy.odd]|(simp_all [Dy.odd];done)|(simp [Dy.odd, *];omega)
theorem yL {α β:Type} {f:α->β} {l:List α} {i:Nat} (h:i<l.length):(l.take (i+1)).map f=(l.take i).map f++[f l[i]]:=by
 rw[List.take_add_one,List.getElem?_eq_getElem h,Option.toList_some,List.map_append];rfl
def tkS (n1:Nat) (k:Nat) (x:Tk):St:=match x with
 | .tok _=>⟨[(k,.tok)],n1⟩
 |_=>⟨[],n1⟩
theorem aHl (l:List Te) (hl:l.length<=1000000):PC Tryz.prog gl 75 [.sl 4 (l.map Te.av) .none,.fn 71 [] []] (fun v=>v= .sl 2 (l.map fun t=>t.at_.av) .none):=by
 (refine PC.introY 2 mix (fn:=Tryz.f75) Tryz.func75 rfl (names 75 _ Tryz.func75) fun F hF hro W=>?_;simp only[Tryz.ntmps75,Tryz.results75,aJ,Nat.reduceAdd,Nat.reduceSub])
 repeat' (simp -implicitDefEqProofs (disch:=first|assumption|omega) only[aA,aC,facts,Nat.reduceAdd, *])
 refine kL (fD 21 [1,4,7,8,9]) [(4,100)] 101 l.length (fun i (x:Tk)=>⟨[.ud,.fn 71 [] [],.ud,.ud,.sl 2 ((l.take i).map fun t=>t.at_.av) x,.ud,.ud,.sl 4 (l.map Te.av) .none,.int .i64 (l.length:Nat),.int .i64 (i:Nat),.ud,.ud,.ud,.ud,.ud,.ud,.ud,.ud,.ud,.ud,.ud],[]⟩) (fun _ x=>tkS 101 100 x) (fun i x=>(x= .full/\i=0)\/x= .tok 100) .full (.inl ⟨rfl,rfl⟩) rfl rfl ?_
 rintro i x hi hQ
 have hlen:(l.take i).length=i:=by simp;omega
 rcases hQ with⟨rfl,rfl⟩|rfl
 all_goals repeat' (first
  |simp -implicitDefEqProofs (disch:=first|assumption|omega) only[aA,aC,facts,if_pos,Nat.reduceAdd,Nat.reduceEqDiff,Nat.reduceLT,Nat.reduceLeDiff,Int.reduceLE,Int.reduceAdd,tkS,hlen,wrap_in,List.getElem?_eq_getElem,Te.av,Ra.av, *]
  |((with_reducible refine aF (fun _=>?_) (fun _=>?_))<;>try omega)
  |((with_reducible refine dI 71 ?_);refine PC.useY hF (aT1 _) (rfl) fun v hv=>?_;subst hv))
 ·exact fJ (.tok 100) (by omega) (.inr rfl) rfl (by simp only[yL (show 0<l.length by omega)];rfl)
 ·have e:l=[]:=List.length_eq_zero_iff.1 (by omega)
  subst e;rfl
 ·exact fJ (.tok 100) (by omega) (.inr rfl) rfl (by simp only[yL (show i<l.length by omega)];rfl)
 ·rw[List.take_of_length_le (by omega)]
theorem aHm (l:List Dy) (hl:l.length<=1000000):PC Tryz.prog gl 121 [.sl 4 (l.map Dy.av) .none,.fn 119 [] []] (fun v=>v= .sl 2 (l.map fun t=>t.at_.av) .none):=by
 (refine PC.introY 2 mix (fn:=Tryz.f121) Tryz.func121 rfl (names 121 _ Tryz.func121) fun F hF hro W=>?_;simp only[Tryz.ntmps121,Tryz.results121,aJ,Nat.reduceAdd,Nat.reduceSub])
 repeat' (simp -implicitDefEqProofs (disch:=first|assumption|omega) only[aA,aC,facts,Nat.reduceAdd, *])
 refine kL (fD 21 [1,4,7,8,9]) [(4,100)] 101 l.length (fun i (x:Tk)=>⟨[.ud,.fn 119 [] [],.ud,.ud,.sl 2 ((l.take i).map fun t=>t.at_.av) x,.ud,.ud,.sl 4 (l.map Dy.av) .none,.int .i64 (l.length:Nat),.int .i64 (i:Nat),.ud,.ud,.ud,.ud,.ud,.ud,.ud,.ud,.ud,.ud,.ud],[]⟩) (fun _ x=>tkS 101 100 x) (fun i x=>(x= .full/\i=0)\/x= .tok 100) .full (.inl ⟨rfl,rfl⟩) rfl rfl ?_
 rintro i x hi hQ
 have hlen:(l.take i).length=i:=by simp;omega
 rcases hQ with⟨rfl,rfl⟩|rfl
 all_goals repeat' (first
  |simp -implicitDefEqProofs (disch:=first|assumption|omega) only[aA,aC,facts,if_pos,Nat.reduceAdd,Nat.reduceEqDiff,Nat.reduceLT,Nat.reduceLeDiff,Int.reduceLE,Int.reduceAdd,tkS,hlen,wrap_in,List.getElem?_eq_getElem,Dy.av,Ra.av, *]
  |((with_reducible refine aF (fun _=>?_) (fun _=>?_))<;>try omega)
  |((with_reducible refine dI 119 ?_);refine PC.useY hF (aQ0 _) (rfl) fun v hv=>?_;subst hv))
 ·exact fJ (.tok 100) (by omega) (.inr rfl) rfl (by simp only[yL (show 0<l.length by omega)];rfl)
 ·have e:l=[]:=List.length_eq_zero_iff.1 (by omega)
  subst e;rfl
 ·exact fJ (.tok 100) (by omega) (.inr rfl) rfl (by simp only[yL (show i<l.length by omega)];rfl)
 ·rw[List.take_of_length_le (by omega)]
def vS (l:List Ra) (len:Ra) (i:Nat):Bool:=(l.getD i ⟨0,0⟩).right && (decide (0<=(l.getD i ⟨0,0⟩).num) && (decide ((l.getD i ⟨0,0⟩).cmp len<0) && (decide (i=0)||decide ((l.getD (i - 1) ⟨0,0⟩).cmp (l.getD i ⟨0,0⟩)<0))))
def wG (l:List Ra) (len:Ra):Bool:=Dz l.length (vS l len)
theorem aC8 (l:List Ra) (len:Ra) (hl:l.length<=1000000) (hf: ∀a∈l,a.fits) (hlen:len.fits):PC Tryz.prog gl 74 [.sl 2 (l.map Ra.av) .none,len.av] (fun v=>v= .bool (wG l len)):=by
 (refine PC.introY 2 mix (fn:=Tryz.f74) Tryz.func74 rfl (names 74 _ Tryz.func74) fun F hF hro W=>?_;simp only[Tryz.ntmps74,Tryz.results74,aJ,Nat.reduceAdd,Nat.reduceSub])
 repeat' (simp -implicitDefEqProofs (disch:=first|assumption|omega) only[aA,aC,facts,Nat.reduceAdd,Ra.av, *])
 refine kL (fD 43 [0,3,7,8,9]) [] 100 l.length (fun i (_:Unit)=>⟨[.sl 2 (l.map Ra.av) .none,.ud,.ud,.ptr 0 0,.ud,.ud,.ud,.sl 2 (l.map Ra.av) .none,.int .i64 (l.length:Nat),.int .i64 (i:Nat),.ud,.ud,.ud,.ud,.ud,.ud,.ud,.ud,.ud,.ud,.ud,.ud,.ud,.ud,.ud,.ud,.ud,.ud,.ud,.ud,.ud,.ud,.ud,.ud,.ud,.ud,.ud,.ud,.ud,.ud,.ud,.ud,.ud],[]⟩) (fun _ _=>⟨[(0,.cells [.int .i64 len.num,.int .i64 len.den])],100⟩) (fun i _=> ∀j,j<i->vS l len j=true) () oO rfl rfl ?_
 rintro i ⟨⟩ hi hQ
 have hg: ∀(h:i<l.length),l.getD i ⟨0,0⟩=l[i]:=fun h=>by simp [h]
 have hg1: ∀(h:i - 1<l.length),l.getD (i - 1) ⟨0,0⟩=l[i - 1]:=fun h=>by simp [h]
 repeat' (first
  |simp -implicitDefEqProofs (disch:=first|assumption|omega) only[aA,aC,facts,if_pos,Nat.reduceAdd,Nat.reduceLeDiff,wrap_in,List.getElem?_eq_getElem,Gf,Ra.av, *]
  |((with_reducible refine jS 114 ?_);refine dK (mJ l[i] (hf _ (List.getElem_mem (by omega)))) (rfl) ?_)
  |((with_reducible refine jS 115 ?_);refine dK (Je l[i] len (hf _ (List.getElem_mem (by omega))) hlen) (rfl) ?_)
  |((with_reducible refine jS 115 ?_);refine dK (Je (l[i - 1]'(by omega)) l[i] (hf _ (List.getElem_mem (by omega))) (hf _ (List.getElem_mem (by omega)))) (rfl) ?_)
  |((with_reducible refine aF (fun _=>?_) (fun _=>?_))<;>try omega)
  |((with_reducible refine yC (fun _=>?_) (fun _=>?_))<;>try omega)
  |((with_reducible refine uZ (fun _=>?_) (fun _=>?_))<;>try omega)
  |((with_reducible refine Ed (fun _=>?_) (fun _=>?_))<;>try omega)
  |((with_reducible refine fQ ?_);refine gZ _ rfl (by decide+kernel) ?_))
 ·rename_i h1 h2
  have e:=hg (by omega)
  have hr:vS l len i=false:=by rw[vS,e];simp_all
  rw[wG,pV (i:=i) (by omega) hr]
 ·rename_i h1 h2 h3
  have e:=hg (by omega)
  have hr:vS l len i=false:=by rw[vS,e,decide_eq_false (show¬0<=l[i].num by omega)];simp
  rw[wG,pV (i:=i) (by omega) hr]
 ·rename_i h1 h2 h3 h4
  have e:=hg (by omega)
  have hr:vS l len i=false:=by rw[vS,e,decide_eq_false (show¬l[i].cmp len<0 by omega)];simp
  rw[wG,pV (i:=i) (by omega) hr]
 ·rename_i h1 h2 h3 h4 h5 h6
  have e:=hg (by omega)
  have e1:=hg1 (by omega)
  have hr:vS l len i=false:=by rw[vS,e,e1,decide_eq_false (show¬l[i - 1].cmp l[i]<0 by omega),decide_eq_false (show¬i=0 by omega)];simp
  rw[wG,pV (i:=i) (by omega) hr]
 ·rename_i h1 h2 h3 h4 h5 h6
  have e:=hg (by omega)
  have e1:=hg1 (by omega)
  have h2':l[i].right=true:=by simpa using h2
  exact fJ () (by omega) (lX hQ (by rw[vS,e,e1,h2',decide_eq_true (show 0<=l[i].num by omega),decide_eq_true (show l[i].cmp len<0 by omega),decide_eq_true (show l[i - 1].cmp l[i]<0 by omega)];simp)) rfl rfl
 ·rename_i h1 h2 h3 h4 h5
  have e:=hg (by omega)
  have h2':l[i].right=true:=by simpa using h2
  exact fJ () (by omega) (lX hQ (by rw[vS,e,h2',decide_eq_true (show 0<=l[i].num by omega),decide_eq_true (show l[i].cmp len<0 by omega),decide_eq_true (show i=0 by omega)];simp)) rfl rfl
 ·rw[wG,Cj fun j hj=>hQ j (by omega)]
structure Ba.ok (b:Ba):Prop where
 groups:b.meter.groups.length<=1000000
 num:I64 b.meter.num
 den:I64 b.meter.den
 tempos:b.tempos.length<=1000000
 at_: ∀t∈b.tempos,t.at_.fits
def Ba.errR (b:Ba):Int:=
 if b.meter.lenR.2=0 then
  (if b.key.right=true then(if(wG (b.tempos.map fun t=>t.at_) b.meter.lenR.1 && !(b.tempos.any Te.odd))=true then 0 else 110) else 30)
 else b.meter.lenR.2
theorem aVz (b:Ba) (h:b.ok):PC Tryz.prog gl 31 [b.av] (fun v=>v= .int .i64 b.errR):=by
 (refine PC.introY 1 mix (fn:=Tryz.f31) Tryz.func31 rfl (names 31 _ Tryz.func31) fun F hF hro W=>?_;simp only[Tryz.ntmps31,Tryz.results31,aJ,Nat.reduceAdd,Nat.reduceSub])
 repeat' (first
  |simp -implicitDefEqProofs (disch:=first|assumption|omega) only[aA,aC,facts,if_pos,Nat.reduceAdd,Nat.reduceEqDiff,Nat.reduceLeDiff,Ba.av,pU, *]
  |((with_reducible refine jS 75 ?_);refine dK (aHl b.tempos h.tempos) (rfl) ?_)
  |((with_reducible refine jS 74 ?_);refine dK (aC8 (b.tempos.map fun t=>t.at_) b.meter.lenR.1 (by simpa using h.tempos) (fun a ha=>by obtain⟨t,ht,rfl⟩:=List.mem_map.1 ha;exact h.at_ t ht) Wv) ((by simp only[List.map_cons,List.map_nil,List.map_map];rfl)) ?_)
  |((with_reducible refine jS 76 ?_);refine dK (Ws b.tempos _ [] Te.odd h.tempos rfl rfl (fun _=>rfl) (fun a _=>aT2 a)) (rfl) ?_)
  |((with_reducible refine dR (fun _=>?_) (fun _=>?_))<;>try omega)
  |((with_reducible refine dL (fun _=>?_) (fun _=>?_))<;>try omega)
  |((with_reducible refine Ed (fun _=>?_) (fun _=>?_))<;>try omega)
  |((with_reducible refine fQ ?_);refine gZ _ rfl (by decide+kernel) ?_)
  |((with_reducible refine dI 70 ?_);refine PC.useY hF (Lc b.meter h.groups h.num h.den) (rfl) fun v hv=>?_;subst hv)
  |((with_reducible refine dI 73 ?_);refine PC.useY hF (Bi b.key) (rfl) fun v hv=>?_;subst hv))
 all_goals simp_all [Ba.errR]
theorem aT3 (l:List Dy) (len:Ra) (hl:l.length<=1000000) (hf: ∀t∈l,t.at_.fits) (hlen:len.fits):PC Tryz.prog gl 78 [.sl 4 (l.map Dy.av) .none,len.av] (fun v=>v= .int .i64 (if(wG (l.map fun t=>t.at_) len && !(l.any Dy.odd))=true then 0 else 120)):=by
 (refine PC.introY 1 mix (fn:=Tryz.f78) Tryz.func78 rfl (names 78 _ Tryz.func78) fun F hF hro W=>?_;simp only[Tryz.ntmps78,Tryz.results78,aJ,Nat.reduceAdd,Nat.reduceSub])
 repeat' (first
  |simp -implicitDefEqProofs (disch:=first|assumption|omega) only[aA,aC,facts,if_pos,Nat.reduceAdd,Ra.av, *]
  |((with_reducible refine jS 121 ?_);refine dK (aHm l hl) (rfl) ?_)
  |((with_reducible refine jS 74 ?_);refine dK (aC8 (l.map fun t=>t.at_) len (by simpa using hl) (fun a ha=>by obtain⟨t,ht,rfl⟩:=List.mem_map.1 ha;exact hf t ht) hlen) ((by simp only[List.map_cons,List.map_nil,List.map_map];rfl)) ?_)
  |((with_reducible refine jS 122 ?_);refine dK (Wu l _ [] Dy.odd hl rfl rfl (fun _=>rfl) (fun a _=>aQ1 a)) (rfl) ?_)
  |((with_reducible refine dL (fun _=>?_) (fun _=>?_))<;>try omega)
  |((with_reducible refine Ed (fun _=>?_) (fun _=>?_))<;>try omega)
  |((with_reducible refine fQ ?_);refine gZ _ rfl (by decide+kernel) ?_))
 all_goals simp_all
def Pa.right (p:Pa) (bars:Int):Bool:=nameB p.name && (decide (0<=p.clef/\p.clef<=3/\0<=p.channel/\p.channel<16) && (decide ((p.cells.length:Int)=bars) && decide ((p.dyns.length:Int)=bars)))
theorem aC9 (p:Pa) (bars:Int):PC Tryz.prog gl 32 [p.av,.int .i64 bars] (fun v=>v= .int .i64 (if p.right bars=true then 0 else 80)):=by
 (refine PC.introY 1 mix (fn:=Tryz.f32) Tryz.func32 rfl (names 32 _ Tryz.func32) fun F hF hro W=>?_;simp only[Tryz.ntmps32,Tryz.results32,aJ,Nat.reduceAdd,Nat.reduceSub])
 repeat' (first
  |simp -implicitDefEqProofs (disch:=first|assumption|omega) only[aA,aC,facts,if_pos,Nat.reduceAdd,Nat.reduceLeDiff,Pa.av, *]
  |((with_reducible refine dL (fun _=>?_) (fun _=>?_))<;>try omega)
  |((with_reducible refine iH (fun _=>?_) (fun _=>?_))<;>try omega)
  |((with_reducible refine jW (fun _=>?_) (fun _=>?_))<;>try omega)
  |((with_reducible refine dI 30 ?_);refine PC.useY hF (aI1 p.name) (rfl) fun v hv=>?_;subst hv))
 all_goals trace_state
 all_goals first|grind[Pa.right]|(simp_all [Pa.right];done)|(simp [Pa.right, *];omega)
theorem Qp {i:Nat}:((i:Int)+1).toNat=i+1:=by omega
def uA (e next:Ev) (is:Bool) (i:Nat):Bool:=!(e.ties.getD i false)||(is && (next.pitches.any fun y=>(e.pitches.getD i ⟨0,0,0⟩).same y))
def Ae (e next:Ev) (is:Bool):Bool:=Dz e.pitches.length (uA e next is)
theorem aRr (e next:Ev) (is:Bool) (hs:e.small) (hn:next.small) (ht:e.ties.length=e.pitches.length):PC Tryz.prog gl 36 [e.av,next.av,.bool is] (fun v=>v= .bool (Ae e next is)):=by
 obtain⟨hs1,hs2,hs3⟩:=hs
 (refine PC.introY 2 mix (fn:=Tryz.f36) Tryz.func36 rfl (names 36 _ Tryz.func36) fun F hF hro W=>?_;simp only[Tryz.ntmps36,Tryz.results36,aJ,Nat.reduceAdd,Nat.reduceSub])
 repeat' (simp -implicitDefEqProofs (disch:=first|assumption|omega) only[aA,aC,facts,if_pos,Nat.reduceAdd,Nat.reduceLeDiff,Ev.av, *])
 refine kL (fD 34 [2,3,4,10,11,12]) [] 200 e.pitches.length (fun i (_:Unit)=>⟨[.ud,.ud,.bool is,.ptr 0 0,.ptr 1 0,.ud,.ud,.ud,.ud,.ud,.sl 3 (e.pitches.map Pi.av) .none,.int .i64 (e.pitches.length:Nat),.int .i64 (i:Nat),.ud,.ud,.ud,.ud,.ud,.ud,.ud,.ud,.ud,.ud,.ud,.ud,.ud,.ud,.ud,.ud,.ud,.ud,.ud,.ud,.ud],[]⟩) (fun _ _=>⟨[(1,.cells next.cells),(0,.cells e.cells)],200⟩) (fun i _=> ∀j,j<i->uA e next is j=true) () oO rfl rfl ?_
 rintro i ⟨⟩ hi hQ
 have hg: ∀(h:i<e.pitches.length),e.pitches.getD i ⟨0,0,0⟩=e.pitches[i]:=fun h=>by simp [h]
 have hg1: ∀(h:i<e.ties.length),e.ties.getD i false=e.ties[i]:=fun h=>by simp [h]
 repeat' (first
  |simp -implicitDefEqProofs (disch:=first|assumption|omega) only[aA,aC,facts,if_pos,Nat.reduceAdd,Nat.reduceLeDiff,wrap_in,List.getElem?_eq_getElem,Pi.av,Ev.cells, *]
  |((with_reducible refine aF (fun _=>?_) (fun _=>?_))<;>try omega)
  |((with_reducible refine dR (fun _=>?_) (fun _=>?_))<;>try omega)
  |((with_reducible refine jW (fun _=>?_) (fun _=>?_))<;>try omega)
  |((with_reducible refine sD (fun _=>?_) (fun _=>?_))<;>try omega)
  |((with_reducible refine dI 80 ?_);refine PC.useY hF (Rl next.pitches _ hn.1) (rfl) fun v hv=>?_;subst hv))
 ·rename_i h1 h2 h3
  have e1:=hg1 (by omega)
  have hr:uA e next is i=false:=by rw[uA,e1,h2];simp_all
  rw[Ae,pV (i:=i) (by omega) hr]
 ·rename_i h1 h2 h3 h4
  have e0:=hg (by omega)
  have e1:=hg1 (by omega)
  exact fJ () (by omega) (lX hQ (by rw[uA,e0,e1,h2,h4];simp_all)) rfl rfl
 ·rename_i h1 h2 h3 h4
  have e0:=hg (by omega)
  have e1:=hg1 (by omega)
  have hr:uA e next is i=false:=by rw[uA,e0,e1,h2,h4];simp
  rw[Ae,pV (i:=i) (by omega) hr]
 ·rename_i h1 h2
  have e1:=hg1 (by omega)
  exact fJ () (by omega) (lX hQ (by rw[uA,e1,h2];rfl)) rfl rfl
 ·rw[Ae,Cj fun j hj=>hQ j (by omega)]
def qV (a b c d:Int):AV:= .agg [.int .i64 a,.int .i64 b,.int .i64 c,.int .i64 d]
def rP:Ev:=⟨0,[],[],⟨0,0,0,0⟩,[],⟨#[]⟩⟩
def partAt (s:Sc) (i:Nat):Pa:=s.parts.getD i ⟨⟨#[]⟩,0,0,[],[]⟩
def cellAt (s:Sc) (i k:Nat):List Vo:=(partAt s i).cells.getD k []
def aGj (s:Sc) (i k v n:Nat):Ev:=((cellAt s i k).getD v ⟨[]⟩).l.getD n rP
def uB (s:Sc) (i k v:Nat):Bool:=decide (k+1<s.bars.length) && decide (v< (cellAt s i (k+1)).length)
def vX (s:Sc) (i k v:Nat):Ev:=if uB s i k v=true then aGj s i (k+1) v 0 else rP
theorem getD_at {α:Type} {l:List α} {i:Nat} {d:α} (h:i<l.length):l.getD i d=l[i]:=by simp [h]
theorem aPe (s:Sc) (i k v:Nat) (n:Int) (hi:i<s.parts.length) (hb:s.bars.length<=1000000) (hk:k<s.bars.length) (hc:(partAt s i).cells.length=s.bars.length) (hv:v<=1000000)
    (hne: ∀w∈cellAt s i (k+1),0<w.l.length):
    PC Tryz.prog gl 35 [s.av,qV i k v n] (fun w=>w= .tup [(vX s i k v).av,.bool (uB s i k v)]):=by
  have e1:partAt s i=s.parts[i]:=getD_at hi
  rw[e1] at hc
  by_cases h1:k+1<s.bars.length
  · have h1':k+1<s.parts[i].cells.length:=by omega
    have e2:cellAt s i (k+1)=s.parts[i].cells[k+1]:=by rw[cellAt,e1];exact getD_at h1'
    rw[e2] at hne
    by_cases h2:v<s.parts[i].cells[k+1].length
    · have h3:=hne _ (List.getElem_mem h2)
      have q1:uB s i k v=true:=by simp only[uB,e2,h1,h2,decide_true,Bool.and_self]
      have q2:vX s i k v=(s.parts[i].cells[k+1][v]).l[0]:=by
        simp only[vX,q1,if_true,aGj,e2]
        rw[getD_at h2,getD_at h3]
      (refine PC.introY 1 mix (fn:=Tryz.f35) Tryz.func35 rfl (names 35 _ Tryz.func35) fun F hF hro W=>?_;simp only[Tryz.ntmps35,Tryz.results35,aJ,Nat.reduceAdd,Nat.reduceSub])
      repeat' (first
    |simp -implicitDefEqProofs (disch:=first|assumption|omega) only[aA,aC,facts,if_pos,if_neg,Nat.reduceAdd,Nat.reduceEqDiff,Nat.reduceLT,Nat.reduceLeDiff,Int.reduceLE,Sc.av,qV,Pa.av,bU,Vo.av,Ev.av,wrap_in,List.getElem?_eq_getElem,Qp,q1,q2, *]
    |((with_reducible refine aF (fun _=>?_) (fun _=>?_))<;>try omega)
    |((with_reducible refine yC (fun _=>?_) (fun _=>?_))<;>try omega)
    |((with_reducible refine fQ ?_);refine gZ _ rfl (by decide+kernel) ?_)
    | ((with_reducible refine fQ ?_);refine Yb (by decide+kernel) ?_))
      decide+kernel
    · have q1:uB s i k v=false:=by simp only[uB,e2,h2,decide_false,Bool.and_false]
      have q2:vX s i k v=rP:=by simp only[vX,q1,Bool.false_eq_true,if_false]
      (refine PC.introY 1 mix (fn:=Tryz.f35) Tryz.func35 rfl (names 35 _ Tryz.func35) fun F hF hro W=>?_;simp only[Tryz.ntmps35,Tryz.results35,aJ,Nat.reduceAdd,Nat.reduceSub])
      repeat' (first
    |simp -implicitDefEqProofs (disch:=first|assumption|omega) only[aA,aC,facts,if_pos,Nat.reduceAdd,Nat.reduceLT,Nat.reduceLeDiff,Sc.av,qV,Pa.av,bU,Ev.av,wrap_in,List.getElem?_eq_getElem,Qp,q1,q2,rP, *]
    |((with_reducible refine aF (fun _=>?_) (fun _=>?_))<;>try omega)
    |((with_reducible refine yC (fun _=>?_) (fun _=>?_))<;>try omega)
    |((with_reducible refine fQ ?_);refine gZ _ rfl (by decide+kernel) ?_))
  · have q1:uB s i k v=false:=by simp only[uB,h1,decide_false,Bool.false_and]
    have q2:vX s i k v=rP:=by simp only[vX,q1,Bool.false_eq_true,if_false]
    (refine PC.introY 1 mix (fn:=Tryz.f35) Tryz.func35 rfl (names 35 _ Tryz.func35) fun F hF hro W=>?_;simp only[Tryz.ntmps35,Tryz.results35,aJ,Nat.reduceAdd,Nat.reduceSub])
    repeat' (first
    |simp -implicitDefEqProofs (disch:=first|assumption|omega) only[aA,aC,facts,if_pos,Nat.reduceAdd,Nat.reduceLeDiff,Sc.av,qV,Ev.av,wrap_in,q1,q2,rP, *]
    |((with_reducible refine yC (fun _=>?_) (fun _=>?_))<;>try omega)
    |((with_reducible refine fQ ?_);refine gZ _ rfl (by decide+kernel) ?_))
end Go.Proofs.Pv
