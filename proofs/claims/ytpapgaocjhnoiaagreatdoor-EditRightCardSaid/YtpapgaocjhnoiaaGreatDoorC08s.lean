/-
  Layer 8's check of a score: words: a sign that may not be.
  Layer 8's check of a score: words.
  Layer 8's check of a score: events.
  Conditions: none but those that each statement names.
-/
import Derived.Test.YtpapgaocjhnoiaaGreatDoorC08o
import Derived.Test.YtpapgaocjhnoiaaGreatDoorC08q
set_option linter.unusedVariables false
set_option linter.unusedSimpArgs false
namespace Go.Proofs.Pv
open Go Go.Proofs
set_option maxRecDepth 10000
set_option maxHeartbeats 4000000
theorem aIc (s:ByteArray) (i:Nat):1≤(Utf8.decode s i).2:=by
 simp only[Utf8.decode]
 repeat' split
 all_goals first|exact Nat.le_refl 1|exact(by omega:(1:Nat)≤2)|exact(by omega:(1:Nat)≤3)|exact(by omega:(1:Nat)≤4)
def oddR (r:Nat):Bool:=decide ((r:Int)<32)||decide ((r:Int)=127)
def Jg (w:ByteArray) (i:Nat):Int:=
 if h:i<w.size then(if oddR (Utf8.decode w i).1=true then(i:Int) else Jg w (i+(Utf8.decode w i).2)) else -1
termination_by w.size - i
decreasing_by have:=aIc w i;omega
theorem aMg (w:ByteArray) (hw:w.size≤1000000):PC Tryz.prog gl 160 [.str w,.fn 132 [] [],.bool true] (fun v=>v= .int .i64 (Jg w 0)):=by
 (refine PC.introY 3 mix (fn:=Tryz.f160) Tryz.func160 rfl (names 160 _ Tryz.func160) fun F hF hro W=>?_;simp -implicitDefEqProofs only[Tryz.ntmps160,Tryz.results160,aI,Nat.reduceAdd,Nat.reduceSub])
 repeat' (simp -implicitDefEqProofs (disch:=first|assumption|omega) only[aB,aC,facts,Nat.reduceAdd,Int.reduceNeg,mM, *])
 refine Nw (jQ 21 [1,2,10]) [] 100 (fun m fr st=> ∃i:Nat,m=w.size - i∧Jg w i=Jg w 0∧fr=⟨[.ud,.fn 132 [] [],.bool true,.ud,.ud,.ud,.ud,.ud,.ud,.ud,.ptr 2 0,.ud,.ud,.ud,.ud,.ud,.ud,.ud,.ud,.ud,.ud],[]⟩∧st=⟨[(2,.sit w i)],100⟩) ⟨_,rfl,_,0,rfl,rfl,rfl,rfl⟩ ?_
 rintro m fr st ⟨i,rfl,hs,rfl,rfl⟩
 by_cases h:i<w.size
 ·repeat' (first
  |simp -implicitDefEqProofs (disch:=first|assumption|omega) only[aB,aC,facts,Nat.reduceAdd,Int.reduceNeg,mM,zH,Bl,h, *]
  |((with_reducible refine dI (fun _=>?_) (fun _=>?_))<;>try omega)
  |((with_reducible refine dD 132 ?_);refine PC.useY hF (aLs _) (rfl) fun v hv=>?_;subst hv))
  ·rename_i ho
   rw[←hs,Jg,dif_pos h,if_pos (by exact ho)]
  ·rename_i ho
   have hp:=aIc w i
   refine⟨_,rfl,_,by omega,i+(Utf8.decode w i).2,rfl,?_,rfl,rfl⟩
   rw[←hs,Jg.eq_def w i,dif_pos h,if_neg (by rw[oddR,ho];decide)]
 ·repeat' (simp -implicitDefEqProofs (disch:=first|assumption|omega) only[aB,aC,Nat.reduceAdd,Int.reduceNeg,mM,zH,Bl,h, *])
  rw[←hs,Jg,dif_neg h]
theorem aG5 (w:ByteArray) (hw:w.size≤1000000):PC Tryz.prog gl 156 [.str w,.fn 132 [] []] (fun v=>v= .int .i64 (Jg w 0)):=by
 (refine PC.introY 1 mix (fn:=Tryz.f156) Tryz.func156 rfl (names 156 _ Tryz.func156) fun F hF hro W=>?_;simp -implicitDefEqProofs only[Tryz.ntmps156,Tryz.results156,aI,Nat.reduceAdd,Nat.reduceSub])
 repeat' (first
  |simp -implicitDefEqProofs (disch:=first|assumption|omega) only[aB,aC,Nat.reduceAdd, *]
  |((with_reducible refine dD 160 ?_);refine PC.useY hF (aMg w hw) (rfl) fun v hv=>?_;subst hv))
theorem aA6 (w:ByteArray) (hw:w.size≤1000000):PC Tryz.prog gl 134 [.str w,.fn 132 [] []] (fun v=>v= .bool (decide (Jg w 0≥0))):=by
 (refine PC.introY 1 mix (fn:=Tryz.f134) Tryz.func134 rfl (names 134 _ Tryz.func134) fun F hF hro W=>?_;simp -implicitDefEqProofs only[Tryz.ntmps134,Tryz.results134,aI,Nat.reduceAdd,Nat.reduceSub])
 repeat' (first
  |simp -implicitDefEqProofs (disch:=first|assumption|omega) only[aB,aC,Nat.reduceAdd, *]
  |((with_reducible refine dD 156 ?_);refine PC.useY hF (aG5 w hw) (rfl) fun v hv=>?_;subst hv))
end Go.Proofs.Pv
namespace Go.Proofs.Pv
open Go Go.Proofs
set_option maxRecDepth 10000
set_option maxHeartbeats 4000000
def Yt (w:ByteArray):Bool:=decide (w.size≤40) && (pO w && !decide (Jg w 0≥0))
theorem aPs (w:ByteArray):PC Tryz.prog gl 102 [.str w] (fun v=>v= .bool (Yt w)):=by
 by_cases h:w.size≤40
 ·have hw:w.size≤1000000:=by omega
  (refine PC.introY 1 mix (fn:=Tryz.f102) Tryz.func102 rfl (names 102 _ Tryz.func102) fun F hF hro W=>?_;simp -implicitDefEqProofs only[Tryz.ntmps102,Tryz.results102,aI,Nat.reduceAdd,Nat.reduceSub])
  repeat' (first
  |simp -implicitDefEqProofs (disch:=first|assumption|omega) only[aB,aC,facts,Nat.reduceAdd, *]
  |((with_reducible refine jG (fun _=>?_) (fun _=>?_))<;>try omega)
  |((with_reducible refine oQ (fun _=>?_) (fun _=>?_))<;>try omega)
  |((with_reducible refine dD 133 ?_);refine PC.useY hF (aP4 w hw) (rfl) fun v hv=>?_;subst hv)
  |((with_reducible refine dD 134 ?_);refine PC.useY hF (aA6 w hw) (rfl) fun v hv=>?_;subst hv))
  all_goals simp_all [Yt]
 ·(refine PC.introY 1 mix (fn:=Tryz.f102) Tryz.func102 rfl (names 102 _ Tryz.func102) fun F hF hro W=>?_;simp -implicitDefEqProofs only[Tryz.ntmps102,Tryz.results102,aI,Nat.reduceAdd,Nat.reduceSub])
  repeat' (first
  |simp -implicitDefEqProofs (disch:=first|assumption|omega) only[aB,aC,facts,Nat.reduceAdd, *]
  |((with_reducible refine jG (fun _=>?_) (fun _=>?_))<;>try omega))
  all_goals first|(rw[Yt,decide_eq_false h,Bool.false_and];done)|(exfalso;omega)
end Go.Proofs.Pv
namespace Go.Proofs.Pv
open Go Go.Proofs
set_option maxRecDepth 10000
set_option maxHeartbeats 4000000
def Ev.small (e:Ev):Prop:=e.pitches.length≤1000000∧e.ties.length≤1000000∧e.marks.length≤1000000
def Ev.right (e:Ev):Bool:=e.value.right && (Yt e.word && (Uk e.marks && (decide (e.ties.length=e.pitches.length) &&
  (if e.kind=0 then decide (e.pitches.length=0) && (e.word.toList==[]) && !(e.marks.any fun m=>m !=4)
   else decide (e.kind=1) && (decide (1≤e.pitches.length∧e.pitches.length≤8) && ((e.pitches.all Pi.right) && Bj (fun a b=>decide (a.cmp b>0)) e.pitches))))))
theorem uO (e:Ev) (hs:e.small):PC Tryz.prog gl 65 [e.av] (fun v=>v= .bool e.right):=by
 obtain⟨hs1,hs2,hs3⟩:=hs
 (refine PC.introY 2 mix (fn:=Tryz.f65) Tryz.func65 rfl (names 65 _ Tryz.func65) fun F hF hro W=>?_;simp -implicitDefEqProofs only[Tryz.ntmps65,Tryz.results65,aI,Nat.reduceAdd,Nat.reduceSub])
 repeat' (first
  |simp -implicitDefEqProofs (disch:=first|assumption|omega) only[aB,aC,facts,if_pos,Nat.reduceAdd,Nat.reduceEqDiff,Nat.reduceLeDiff,Ev.av,aF7, *]
  |((with_reducible refine aH (fun _=>?_) (fun _=>?_))<;>try omega)
  |((with_reducible refine dI (fun _=>?_) (fun _=>?_))<;>try omega)
  |((with_reducible refine iH (fun _=>?_) (fun _=>?_))<;>try omega)
  |((with_reducible refine iW (fun _=>?_) (fun _=>?_))<;>try omega)
  |((with_reducible refine oQ (fun _=>?_) (fun _=>?_))<;>try omega)
  |((with_reducible refine dD 101 ?_);refine PC.useY hF (Df e.value) (rfl) fun v hv=>?_;subst hv)
  |((with_reducible refine dD 102 ?_);refine PC.useY hF (aPs e.word) (rfl) fun v hv=>?_;subst hv)
  |((with_reducible refine dD 103 ?_);refine PC.useY hF (aOv e.marks hs3) (rfl) fun v hv=>?_;subst hv)
  |((with_reducible refine dD 104 ?_);refine PC.useY hF (Sv e.marks _ [] (fun m=>m !=4) hs3 rfl rfl (fun _=>rfl) (fun a _=>aOt a)) (rfl) fun v hv=>?_;subst hv))
 all_goals try first|(simp_all [Ev.right];done)|(simp_all [Ev.right];omega)|grind[Ev.right]
 refine jV (jQ 77 [1,64,65,66]) [] 200 e.pitches.length (fun i (_:Unit)=>⟨[.ud,.ptr 0 0,.ud,.ud,.ud,.ud,.ud,.ud,.ud,.ud,.ud,.ud,.ud,.ud,.ud,.ud,.ud,.ud,.ud,.ud,.ud,.ud,.ud,.ud,.ud,.ud,.ud,.ud,.ud,.ud,.ud,.ud,.ud,.ud,.ud,.ud,.ud,.ud,.ud,.ud,.ud,.ud,.ud,.ud,.ud,.ud,.ud,.ud,.ud,.ud,.ud,.ud,.ud,.ud,.ud,.ud,.ud,.ud,.ud,.ud,.ud,.ud,.ud,.ud,.sl 3 (e.pitches.map Pi.av) .none,.int .i64 (e.pitches.length:Nat),.int .i64 (i:Nat),.ud,.ud,.ud,.ud,.ud,.ud,.ud,.ud,.ud,.ud],[]⟩) (fun _ _=>⟨[(0,.cells e.cells)],200⟩) (fun i _=> ∀j,j<i→ ∀h:j<e.pitches.length,e.pitches[j].right=true) () nO rfl rfl ?_
 rintro i ⟨⟩ hi hQ
 repeat' (first
  |simp -implicitDefEqProofs (disch:=first|assumption|omega) only[aB,aC,facts,if_pos,Nat.reduceAdd,Nat.reduceLeDiff,wrap_in,List.getElem?_eq_getElem,Pi.av,Ev.cells, *]
  |((with_reducible refine aH (fun _=>?_) (fun _=>?_))<;>try omega)
  |((with_reducible refine dO (fun _=>?_) (fun _=>?_))<;>try omega)
  |((with_reducible refine dD 106 ?_);refine PC.useY hF (mF _) (rfl) fun v hv=>?_;subst hv)
  |((with_reducible refine dD 107 ?_);refine PC.useY hF (aLf e.pitches _ _ hs1 aOu) (rfl) fun v hv=>?_;subst hv))
 ·rename_i h
  exact fD () (by omega) (lF hQ fun _=>h) rfl rfl
 ·rename_i h1 h
  have hall:e.pitches.all Pi.right=false:=yT (i:=i) (by omega) h
  grind[Ev.right]
 ·have hall:e.pitches.all Pi.right=true:=Vq fun j hj=>hQ j (by omega) hj
  grind[Ev.right]
end Go.Proofs.Pv
