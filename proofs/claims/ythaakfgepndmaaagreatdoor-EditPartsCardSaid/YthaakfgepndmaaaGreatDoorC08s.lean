/-
Layer 8's check of a score: words: a sign that may not be.
Conditions: none but those that each statement names.
-/
import Derived.Test.YthaakfgepndmaaaGreatDoorC08o
import Derived.Test.YthaakfgepndmaaaGreatDoorC08q
set_option linter.unusedVariables false
set_option linter.unusedSimpArgs false
set_option maxRecDepth 100000
set_option maxHeartbeats 16000000
namespace Go.Proofs.Pv
open Go Go.Proofs
theorem aH1 (s:ByteArray) (i:Nat):1<=(Utf8.decode s i).2:=by
 simp only[Utf8.decode]
 repeat' split
 all_goals first|exact Nat.le_refl 1|exact(by omega:(1:Nat)<=2)|exact(by omega:(1:Nat)<=3)|exact(by omega:(1:Nat)<=4)
def oddR (r:Nat):Bool:=decide ((r:Int)<32)||decide ((r:Int)=127)
def Je (w:ByteArray) (i:Nat):Int:=
 if h:i<w.size then(if oddR (Utf8.decode w i).1=true then(i:Int) else Je w (i+(Utf8.decode w i).2)) else -1
termination_by w.size - i
decreasing_by have:=aH1 w i;omega
theorem aMa (w:ByteArray) (hw:w.size<=1000000):PC Tryz.prog gl 161 [.str w,.fn 134 [] [],.bool true] (fun v=>v= .int .i64 (Je w 0)):=by
 (refine PC.introY 3 mix (fn:=Tryz.f161) Tryz.func161 rfl (names 161 _ Tryz.func161) fun F hF hro W=>?_;simp only[Tryz.ntmps161,Tryz.results161,aI,Nat.reduceAdd,Nat.reduceSub])
 repeat' (simp -implicitDefEqProofs (disch:=first|assumption|omega) only[aA,aC,facts,Nat.reduceAdd,Int.reduceNeg,nG, *])
 refine Nv (fD 21 [1,2,10]) [] 100 (fun m fr st=> ∃i:Nat,m=w.size - i/\Je w i=Je w 0/\fr=⟨[.ud,.fn 134 [] [],.bool true,.ud,.ud,.ud,.ud,.ud,.ud,.ud,.ptr 2 0,.ud,.ud,.ud,.ud,.ud,.ud,.ud,.ud,.ud,.ud],[]⟩/\st=⟨[(2,.sit w i)],100⟩) ⟨_,rfl,_,0,rfl,rfl,rfl,rfl⟩ ?_
 rintro m fr st ⟨i,rfl,hs,rfl,rfl⟩
 by_cases h:i<w.size
 ·repeat' (first
  |simp -implicitDefEqProofs (disch:=first|assumption|omega) only[aA,aC,facts,Nat.reduceAdd,Int.reduceNeg,nG,zN,Bq,h, *]
  |((with_reducible refine dK (fun _=>?_) (fun _=>?_))<;>try omega)
  |((with_reducible refine dH 134 ?_);refine PC.useY hF (aLi _) (rfl) fun v hv=>?_;subst hv))
  ·rename_i ho
   rw[<-hs,Je,dif_pos h,if_pos (by exact ho)]
  ·rename_i ho
   have hp:=aH1 w i
   refine⟨_,rfl,_,by omega,i+(Utf8.decode w i).2,rfl,?_,rfl,rfl⟩
   rw[<-hs,Je.eq_def w i,dif_pos h,if_neg (by rw[oddR,ho];decide)]
 ·repeat' (simp -implicitDefEqProofs (disch:=first|assumption|omega) only[aA,aC,Nat.reduceAdd,Int.reduceNeg,nG,zN,Bq,h, *])
  rw[<-hs,Je,dif_neg h]
theorem aGo (w:ByteArray) (hw:w.size<=1000000):PC Tryz.prog gl 157 [.str w,.fn 134 [] []] (fun v=>v= .int .i64 (Je w 0)):=by
 (refine PC.introY 1 mix (fn:=Tryz.f157) Tryz.func157 rfl (names 157 _ Tryz.func157) fun F hF hro W=>?_;simp only[Tryz.ntmps157,Tryz.results157,aI,Nat.reduceAdd,Nat.reduceSub])
 repeat' (first
  |simp -implicitDefEqProofs (disch:=first|assumption|omega) only[aA,aC,Nat.reduceAdd, *]
  |((with_reducible refine dH 161 ?_);refine PC.useY hF (aMa w hw) (rfl) fun v hv=>?_;subst hv))
theorem aAx (w:ByteArray) (hw:w.size<=1000000):PC Tryz.prog gl 136 [.str w,.fn 134 [] []] (fun v=>v= .bool (decide (Je w 0>=0))):=by
 (refine PC.introY 1 mix (fn:=Tryz.f136) Tryz.func136 rfl (names 136 _ Tryz.func136) fun F hF hro W=>?_;simp only[Tryz.ntmps136,Tryz.results136,aI,Nat.reduceAdd,Nat.reduceSub])
 repeat' (first
  |simp -implicitDefEqProofs (disch:=first|assumption|omega) only[aA,aC,Nat.reduceAdd, *]
  |((with_reducible refine dH 157 ?_);refine PC.useY hF (aGo w hw) (rfl) fun v hv=>?_;subst hv))
def Yo (w:ByteArray):Bool:=decide (w.size<=40) && (pY w && !decide (Je w 0>=0))
theorem aPn (w:ByteArray):PC Tryz.prog gl 104 [.str w] (fun v=>v= .bool (Yo w)):=by
 by_cases h:w.size<=40
 ·have hw:w.size<=1000000:=by omega
  (refine PC.introY 1 mix (fn:=Tryz.f104) Tryz.func104 rfl (names 104 _ Tryz.func104) fun F hF hro W=>?_;simp only[Tryz.ntmps104,Tryz.results104,aI,Nat.reduceAdd,Nat.reduceSub])
  repeat' (first
  |simp -implicitDefEqProofs (disch:=first|assumption|omega) only[aA,aC,facts,Nat.reduceAdd, *]
  |((with_reducible refine jA (fun _=>?_) (fun _=>?_))<;>try omega)
  |((with_reducible refine rF (fun _=>?_) (fun _=>?_))<;>try omega)
  |((with_reducible refine dH 135 ?_);refine PC.useY hF (aPx w hw) (rfl) fun v hv=>?_;subst hv)
  |((with_reducible refine dH 136 ?_);refine PC.useY hF (aAx w hw) (rfl) fun v hv=>?_;subst hv))
  all_goals simp_all [Yo]
 ·(refine PC.introY 1 mix (fn:=Tryz.f104) Tryz.func104 rfl (names 104 _ Tryz.func104) fun F hF hro W=>?_;simp only[Tryz.ntmps104,Tryz.results104,aI,Nat.reduceAdd,Nat.reduceSub])
  repeat' (first
  |simp -implicitDefEqProofs (disch:=first|assumption|omega) only[aA,aC,facts,Nat.reduceAdd, *]
  |((with_reducible refine jA (fun _=>?_) (fun _=>?_))<;>try omega))
  all_goals first|(rw[Yo,decide_eq_false h,Bool.false_and];done)|(exfalso;omega)
def Ev.small (e:Ev):Prop:=e.pitches.length<=1000000/\e.ties.length<=1000000/\e.marks.length<=1000000
def Ev.right (e:Ev):Bool:=e.value.right && (Yo e.word && (Ue e.marks && (decide (e.ties.length=e.pitches.length) &&
  (if e.kind=0 then decide (e.pitches.length=0) && (e.word.toList==[]) && !(e.marks.any fun m=>m !=4)
   else decide (e.kind=1) && (decide (1<=e.pitches.length/\e.pitches.length<=8) && ((e.pitches.all Pi.right) && Bo (fun a b=>decide (a.cmp b>0)) e.pitches))))))
theorem uT (e:Ev) (hs:e.small):PC Tryz.prog gl 69 [e.av] (fun v=>v= .bool e.right):=by
 obtain⟨hs1,hs2,hs3⟩:=hs
 (refine PC.introY 2 mix (fn:=Tryz.f69) Tryz.func69 rfl (names 69 _ Tryz.func69) fun F hF hro W=>?_;simp only[Tryz.ntmps69,Tryz.results69,aI,Nat.reduceAdd,Nat.reduceSub])
 repeat' (first
  |simp -implicitDefEqProofs (disch:=first|assumption|omega) only[aA,aC,facts,if_pos,Nat.reduceAdd,Nat.reduceEqDiff,Nat.reduceLeDiff,Ev.av,aFt, *]
  |((with_reducible refine aF (fun _=>?_) (fun _=>?_))<;>try omega)
  |((with_reducible refine dK (fun _=>?_) (fun _=>?_))<;>try omega)
  |((with_reducible refine iK (fun _=>?_) (fun _=>?_))<;>try omega)
  |((with_reducible refine jP (fun _=>?_) (fun _=>?_))<;>try omega)
  |((with_reducible refine rF (fun _=>?_) (fun _=>?_))<;>try omega)
  |((with_reducible refine dH 103 ?_);refine PC.useY hF (Dj e.value) (rfl) fun v hv=>?_;subst hv)
  |((with_reducible refine dH 104 ?_);refine PC.useY hF (aPn e.word) (rfl) fun v hv=>?_;subst hv)
  |((with_reducible refine dH 105 ?_);refine PC.useY hF (aOr e.marks hs3) (rfl) fun v hv=>?_;subst hv)
  |((with_reducible refine dH 106 ?_);refine PC.useY hF (Sl e.marks _ [] (fun m=>m !=4) hs3 rfl rfl (fun _=>rfl) (fun a _=>aOp a)) (rfl) fun v hv=>?_;subst hv))
 all_goals try first|(simp_all [Ev.right];done)|(simp_all [Ev.right];omega)|grind[Ev.right]
 refine kF (fD 77 [1,64,65,66]) [] 200 e.pitches.length (fun i (_:Unit)=>⟨[.ud,.ptr 0 0,.ud,.ud,.ud,.ud,.ud,.ud,.ud,.ud,.ud,.ud,.ud,.ud,.ud,.ud,.ud,.ud,.ud,.ud,.ud,.ud,.ud,.ud,.ud,.ud,.ud,.ud,.ud,.ud,.ud,.ud,.ud,.ud,.ud,.ud,.ud,.ud,.ud,.ud,.ud,.ud,.ud,.ud,.ud,.ud,.ud,.ud,.ud,.ud,.ud,.ud,.ud,.ud,.ud,.ud,.ud,.ud,.ud,.ud,.ud,.ud,.ud,.ud,.sl 3 (e.pitches.map Pi.av) .none,.int .i64 (e.pitches.length:Nat),.int .i64 (i:Nat),.ud,.ud,.ud,.ud,.ud,.ud,.ud,.ud,.ud,.ud],[]⟩) (fun _ _=>⟨[(0,.cells e.cells)],200⟩) (fun i _=> ∀j,j<i-> ∀h:j<e.pitches.length,e.pitches[j].right=true) () oC rfl rfl ?_
 rintro i ⟨⟩ hi hQ
 repeat' (first
  |simp -implicitDefEqProofs (disch:=first|assumption|omega) only[aA,aC,facts,if_pos,Nat.reduceAdd,Nat.reduceLeDiff,wrap_in,List.getElem?_eq_getElem,Pi.av,Ev.cells, *]
  |((with_reducible refine aF (fun _=>?_) (fun _=>?_))<;>try omega)
  |((with_reducible refine dQ (fun _=>?_) (fun _=>?_))<;>try omega)
  |((with_reducible refine dH 108 ?_);refine PC.useY hF (mZ _) (rfl) fun v hv=>?_;subst hv)
  |((with_reducible refine dH 109 ?_);refine PC.useY hF (aK8 e.pitches _ _ hs1 aOq) (rfl) fun v hv=>?_;subst hv))
 ·rename_i h
  exact fJ () (by omega) (lN hQ fun _=>h) rfl rfl
 ·rename_i h1 h
  have hall:e.pitches.all Pi.right=false:=yZ (i:=i) (by omega) h
  grind[Ev.right]
 ·have hall:e.pitches.all Pi.right=true:=Vl fun j hj=>hQ j (by omega) hj
  grind[Ev.right]
end Go.Proofs.Pv
