/-
Layer 8's check of a score: words: a sign that may not be.
Conditions: none but those that each statement names.
-/
import Derived.Test.YtbeclcideapopaaGreatDoorC08o
import Derived.Test.YtbeclcideapopaaGreatDoorC08q
set_option linter.unusedVariables false
set_option linter.unusedSimpArgs false
set_option maxRecDepth 100000
set_option maxHeartbeats 16000000
namespace Go.Proofs.Pv
open Go Go.Proofs
theorem aH2 (s:ByteArray) (i:Nat):1<=(Utf8.decode s i).2:=by
 simp only[Utf8.decode]
 repeat' split
 all_goals first|exact Nat.le_refl 1|exact(by omega:(1:Nat)<=2)|exact(by omega:(1:Nat)<=3)|exact(by omega:(1:Nat)<=4)
def oddR (r:Nat):Bool:=decide ((r:Int)<32)||decide ((r:Int)=127)
def Jl (w:ByteArray) (i:Nat):Int:=
 if h:i<w.size then(if oddR (Utf8.decode w i).1=true then(i:Int) else Jl w (i+(Utf8.decode w i).2)) else -1
termination_by w.size - i
decreasing_by have:=aH2 w i;omega
theorem aMc (w:ByteArray) (hw:w.size<=1000000):PC Tryz.prog gl 160 [.str w,.fn 133 [] [],.bool true] (fun v=>v= .int .i64 (Jl w 0)):=by
 (refine PC.introY 3 mix (fn:=Tryz.f160) Tryz.func160 rfl (names 160 _ Tryz.func160) fun F hF hro W=>?_;simp only[Tryz.ntmps160,Tryz.results160,aI,Nat.reduceAdd,Nat.reduceSub])
 repeat' (simp -implicitDefEqProofs (disch:=first|assumption|omega) only[aA,aC,facts,Nat.reduceAdd,Int.reduceNeg,nG, *])
 refine Oa (fD 21 [1,2,10]) [] 100 (fun m fr st=> ∃i:Nat,m=w.size - i/\Jl w i=Jl w 0/\fr=⟨[.ud,.fn 133 [] [],.bool true,.ud,.ud,.ud,.ud,.ud,.ud,.ud,.ptr 2 0,.ud,.ud,.ud,.ud,.ud,.ud,.ud,.ud,.ud,.ud],[]⟩/\st=⟨[(2,.sit w i)],100⟩) ⟨_,rfl,_,0,rfl,rfl,rfl,rfl⟩ ?_
 rintro m fr st ⟨i,rfl,hs,rfl,rfl⟩
 by_cases h:i<w.size
 ·repeat' (first
  |simp -implicitDefEqProofs (disch:=first|assumption|omega) only[aA,aC,facts,Nat.reduceAdd,Int.reduceNeg,nG,zQ,Ce,h, *]
  |((with_reducible refine dK (fun _=>?_) (fun _=>?_))<;>try omega)
  |((with_reducible refine dI 133 ?_);refine PC.useY hF (aLl _) (rfl) fun v hv=>?_;subst hv))
  ·rename_i ho
   rw[<-hs,Jl,dif_pos h,if_pos (by exact ho)]
  ·rename_i ho
   have hp:=aH2 w i
   refine⟨_,rfl,_,by omega,i+(Utf8.decode w i).2,rfl,?_,rfl,rfl⟩
   rw[<-hs,Jl.eq_def w i,dif_pos h,if_neg (by rw[oddR,ho];decide)]
 ·repeat' (simp -implicitDefEqProofs (disch:=first|assumption|omega) only[aA,aC,Nat.reduceAdd,Int.reduceNeg,nG,zQ,Ce,h, *])
  rw[<-hs,Jl,dif_neg h]
theorem aGp (w:ByteArray) (hw:w.size<=1000000):PC Tryz.prog gl 156 [.str w,.fn 133 [] []] (fun v=>v= .int .i64 (Jl w 0)):=by
 (refine PC.introY 1 mix (fn:=Tryz.f156) Tryz.func156 rfl (names 156 _ Tryz.func156) fun F hF hro W=>?_;simp only[Tryz.ntmps156,Tryz.results156,aI,Nat.reduceAdd,Nat.reduceSub])
 repeat' (first
  |simp -implicitDefEqProofs (disch:=first|assumption|omega) only[aA,aC,Nat.reduceAdd, *]
  |((with_reducible refine dI 160 ?_);refine PC.useY hF (aMc w hw) (rfl) fun v hv=>?_;subst hv))
theorem aA0 (w:ByteArray) (hw:w.size<=1000000):PC Tryz.prog gl 135 [.str w,.fn 133 [] []] (fun v=>v= .bool (decide (Jl w 0>=0))):=by
 (refine PC.introY 1 mix (fn:=Tryz.f135) Tryz.func135 rfl (names 135 _ Tryz.func135) fun F hF hro W=>?_;simp only[Tryz.ntmps135,Tryz.results135,aI,Nat.reduceAdd,Nat.reduceSub])
 repeat' (first
  |simp -implicitDefEqProofs (disch:=first|assumption|omega) only[aA,aC,Nat.reduceAdd, *]
  |((with_reducible refine dI 156 ?_);refine PC.useY hF (aGp w hw) (rfl) fun v hv=>?_;subst hv))
def Yr (w:ByteArray):Bool:=decide (w.size<=40) && (qA w && !decide (Jl w 0>=0))
theorem aPt (w:ByteArray):PC Tryz.prog gl 103 [.str w] (fun v=>v= .bool (Yr w)):=by
 by_cases h:w.size<=40
 ·have hw:w.size<=1000000:=by omega
  (refine PC.introY 1 mix (fn:=Tryz.f103) Tryz.func103 rfl (names 103 _ Tryz.func103) fun F hF hro W=>?_;simp only[Tryz.ntmps103,Tryz.results103,aI,Nat.reduceAdd,Nat.reduceSub])
  repeat' (first
  |simp -implicitDefEqProofs (disch:=first|assumption|omega) only[aA,aC,facts,Nat.reduceAdd, *]
  |((with_reducible refine jI (fun _=>?_) (fun _=>?_))<;>try omega)
  |((with_reducible refine rF (fun _=>?_) (fun _=>?_))<;>try omega)
  |((with_reducible refine dI 134 ?_);refine PC.useY hF (aP4 w hw) (rfl) fun v hv=>?_;subst hv)
  |((with_reducible refine dI 135 ?_);refine PC.useY hF (aA0 w hw) (rfl) fun v hv=>?_;subst hv))
  all_goals simp_all [Yr]
 ·(refine PC.introY 1 mix (fn:=Tryz.f103) Tryz.func103 rfl (names 103 _ Tryz.func103) fun F hF hro W=>?_;simp only[Tryz.ntmps103,Tryz.results103,aI,Nat.reduceAdd,Nat.reduceSub])
  repeat' (first
  |simp -implicitDefEqProofs (disch:=first|assumption|omega) only[aA,aC,facts,Nat.reduceAdd, *]
  |((with_reducible refine jI (fun _=>?_) (fun _=>?_))<;>try omega))
  all_goals first|(rw[Yr,decide_eq_false h,Bool.false_and];done)|(exfalso;omega)
def Ev.small (e:Ev):Prop:=e.pitches.length<=1000000/\e.ties.length<=1000000/\e.marks.length<=1000000
def Ev.right (e:Ev):Bool:=e.value.right && (Yr e.word && (Uk e.marks && (decide (e.ties.length=e.pitches.length) &&
  (if e.kind=0 then decide (e.pitches.length=0) && (e.word.toList==[]) && !(e.marks.any fun m=>m !=4)
   else decide (e.kind=1) && (decide (1<=e.pitches.length/\e.pitches.length<=8) && ((e.pitches.all Pi.right) && Cc (fun a b=>decide (a.cmp b>0)) e.pitches))))))
theorem uV (e:Ev) (hs:e.small):PC Tryz.prog gl 68 [e.av] (fun v=>v= .bool e.right):=by
 obtain⟨hs1,hs2,hs3⟩:=hs
 (refine PC.introY 2 mix (fn:=Tryz.f68) Tryz.func68 rfl (names 68 _ Tryz.func68) fun F hF hro W=>?_;simp only[Tryz.ntmps68,Tryz.results68,aI,Nat.reduceAdd,Nat.reduceSub])
 repeat' (first
  |simp -implicitDefEqProofs (disch:=first|assumption|omega) only[aA,aC,facts,if_pos,Nat.reduceAdd,Nat.reduceEqDiff,Nat.reduceLeDiff,Ev.av,aFv, *]
  |((with_reducible refine aF (fun _=>?_) (fun _=>?_))<;>try omega)
  |((with_reducible refine dK (fun _=>?_) (fun _=>?_))<;>try omega)
  |((with_reducible refine iD (fun _=>?_) (fun _=>?_))<;>try omega)
  |((with_reducible refine jO (fun _=>?_) (fun _=>?_))<;>try omega)
  |((with_reducible refine rF (fun _=>?_) (fun _=>?_))<;>try omega)
  |((with_reducible refine dI 102 ?_);refine PC.useY hF (Dq e.value) (rfl) fun v hv=>?_;subst hv)
  |((with_reducible refine dI 103 ?_);refine PC.useY hF (aPt e.word) (rfl) fun v hv=>?_;subst hv)
  |((with_reducible refine dI 104 ?_);refine PC.useY hF (aOs e.marks hs3) (rfl) fun v hv=>?_;subst hv)
  |((with_reducible refine dI 105 ?_);refine PC.useY hF (Tc e.marks _ [] (fun m=>m !=4) hs3 rfl rfl (fun _=>rfl) (fun a _=>aOq a)) (rfl) fun v hv=>?_;subst hv))
 all_goals try first|(simp_all [Ev.right];done)|(simp_all [Ev.right];omega)|grind[Ev.right]
 refine kC (fD 77 [1,64,65,66]) [] 200 e.pitches.length (fun i (_:Unit)=>⟨[.ud,.ptr 0 0,.ud,.ud,.ud,.ud,.ud,.ud,.ud,.ud,.ud,.ud,.ud,.ud,.ud,.ud,.ud,.ud,.ud,.ud,.ud,.ud,.ud,.ud,.ud,.ud,.ud,.ud,.ud,.ud,.ud,.ud,.ud,.ud,.ud,.ud,.ud,.ud,.ud,.ud,.ud,.ud,.ud,.ud,.ud,.ud,.ud,.ud,.ud,.ud,.ud,.ud,.ud,.ud,.ud,.ud,.ud,.ud,.ud,.ud,.ud,.ud,.ud,.ud,.sl 3 (e.pitches.map Pi.av) .none,.int .i64 (e.pitches.length:Nat),.int .i64 (i:Nat),.ud,.ud,.ud,.ud,.ud,.ud,.ud,.ud,.ud,.ud],[]⟩) (fun _ _=>⟨[(0,.cells e.cells)],200⟩) (fun i _=> ∀j,j<i-> ∀h:j<e.pitches.length,e.pitches[j].right=true) () oD rfl rfl ?_
 rintro i ⟨⟩ hi hQ
 repeat' (first
  |simp -implicitDefEqProofs (disch:=first|assumption|omega) only[aA,aC,facts,if_pos,Nat.reduceAdd,Nat.reduceLeDiff,wrap_in,List.getElem?_eq_getElem,Pi.av,Ev.cells, *]
  |((with_reducible refine aF (fun _=>?_) (fun _=>?_))<;>try omega)
  |((with_reducible refine dS (fun _=>?_) (fun _=>?_))<;>try omega)
  |((with_reducible refine dI 107 ?_);refine PC.useY hF (mZ _) (rfl) fun v hv=>?_;subst hv)
  |((with_reducible refine dI 108 ?_);refine PC.useY hF (aLb e.pitches _ _ hs1 aOr) (rfl) fun v hv=>?_;subst hv))
 ·rename_i h
  exact fH () (by omega) (lL hQ fun _=>h) rfl rfl
 ·rename_i h1 h
  have hall:e.pitches.all Pi.right=false:=zB (i:=i) (by omega) h
  grind[Ev.right]
 ·have hall:e.pitches.all Pi.right=true:=Vr fun j hj=>hQ j (by omega) hj
  grind[Ev.right]
end Go.Proofs.Pv
