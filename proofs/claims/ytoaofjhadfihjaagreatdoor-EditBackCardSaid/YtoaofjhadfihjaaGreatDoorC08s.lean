/-
Layer 8's check of a score: words: a sign that may not be.
Conditions: none but those that each statement names.
-/
import Derived.Test.YtoaofjhadfihjaaGreatDoorC08o
import Derived.Test.YtoaofjhadfihjaaGreatDoorC08q
set_option linter.unusedVariables false
set_option linter.unusedSimpArgs false
set_option maxRecDepth 100000
set_option maxHeartbeats 16000000
namespace Go.Proofs.Pv
open Go Go.Proofs
theorem aIo (s:ByteArray) (i:Nat):1<=(Utf8.decode s i).2:=by
 simp only[Utf8.decode]
 repeat' split
 all_goals first|exact Nat.le_refl 1|exact(by omega:(1:Nat)<=2)|exact(by omega:(1:Nat)<=3)|exact(by omega:(1:Nat)<=4)
def oddR (r:Nat):Bool:=decide ((r:Int)<32)||decide ((r:Int)=127)
def Ko (w:ByteArray) (i:Nat):Int:=
 if h:i<w.size then(if oddR (Utf8.decode w i).1=true then(i:Int) else Ko w (i+(Utf8.decode w i).2)) else -1
termination_by w.size - i
decreasing_by have:=aIo w i;omega
theorem aMw (w:ByteArray) (hw:w.size<=1000000):PC Tryz.prog gl 161 [.str w,.fn 134 [] [],.bool true] (fun v=>v= .int .i64 (Ko w 0)):=by
 (refine PC.introY 3 mix (fn:=Tryz.f161) Tryz.func161 rfl (names 161 _ Tryz.func161) fun F hF hro W=>?_;simp only[Tryz.ntmps161,Tryz.results161,aJ,Nat.reduceAdd,Nat.reduceSub])
 repeat' (simp -implicitDefEqProofs (disch:=first|assumption|omega) only[aA,aC,facts,Nat.reduceAdd,Int.reduceNeg,nP, *])
 refine Oy (fE 21 [1,2,10]) [] 100 (fun m fr st=> ∃i:Nat,m=w.size - i/\Ko w i=Ko w 0/\fr=⟨[.ud,.fn 134 [] [],.bool true,.ud,.ud,.ud,.ud,.ud,.ud,.ud,.ptr 2 0,.ud,.ud,.ud,.ud,.ud,.ud,.ud,.ud,.ud,.ud],[]⟩/\st=⟨[(2,.sit w i)],100⟩) ⟨_,rfl,_,0,rfl,rfl,rfl,rfl⟩ ?_
 rintro m fr st ⟨i,rfl,hs,rfl,rfl⟩
 by_cases h:i<w.size
 ·repeat' (first
  |simp -implicitDefEqProofs (disch:=first|assumption|omega) only[aA,aC,facts,Nat.reduceAdd,Int.reduceNeg,nP,Ag,Dl,h, *]
  |((with_reducible refine dL (fun _=>?_) (fun _=>?_))<;>try omega)
  |((with_reducible refine dI 134 ?_);refine PC.useY hF (aL5 _) (rfl) fun v hv=>?_;subst hv))
  ·rename_i ho
   rw[<-hs,Ko,dif_pos h,if_pos (by exact ho)]
  ·rename_i ho
   have hp:=aIo w i
   refine⟨_,rfl,_,by omega,i+(Utf8.decode w i).2,rfl,?_,rfl,rfl⟩
   rw[<-hs,Ko.eq_def w i,dif_pos h,if_neg (by rw[oddR,ho];decide)]
 ·repeat' (simp -implicitDefEqProofs (disch:=first|assumption|omega) only[aA,aC,Nat.reduceAdd,Int.reduceNeg,nP,Ag,Dl,h, *])
  rw[<-hs,Ko,dif_neg h]
theorem aG7 (w:ByteArray) (hw:w.size<=1000000):PC Tryz.prog gl 157 [.str w,.fn 134 [] []] (fun v=>v= .int .i64 (Ko w 0)):=by
 (refine PC.introY 1 mix (fn:=Tryz.f157) Tryz.func157 rfl (names 157 _ Tryz.func157) fun F hF hro W=>?_;simp only[Tryz.ntmps157,Tryz.results157,aJ,Nat.reduceAdd,Nat.reduceSub])
 repeat' (first
  |simp -implicitDefEqProofs (disch:=first|assumption|omega) only[aA,aC,Nat.reduceAdd, *]
  |((with_reducible refine dI 161 ?_);refine PC.useY hF (aMw w hw) (rfl) fun v hv=>?_;subst hv))
theorem aBi (w:ByteArray) (hw:w.size<=1000000):PC Tryz.prog gl 136 [.str w,.fn 134 [] []] (fun v=>v= .bool (decide (Ko w 0>=0))):=by
 (refine PC.introY 1 mix (fn:=Tryz.f136) Tryz.func136 rfl (names 136 _ Tryz.func136) fun F hF hro W=>?_;simp only[Tryz.ntmps136,Tryz.results136,aJ,Nat.reduceAdd,Nat.reduceSub])
 repeat' (first
  |simp -implicitDefEqProofs (disch:=first|assumption|omega) only[aA,aC,Nat.reduceAdd, *]
  |((with_reducible refine dI 157 ?_);refine PC.useY hF (aG7 w hw) (rfl) fun v hv=>?_;subst hv))
def Zm (w:ByteArray):Bool:=decide (w.size<=40) && (qG w && !decide (Ko w 0>=0))
theorem aQf (w:ByteArray):PC Tryz.prog gl 104 [.str w] (fun v=>v= .bool (Zm w)):=by
 by_cases h:w.size<=40
 ·have hw:w.size<=1000000:=by omega
  (refine PC.introY 1 mix (fn:=Tryz.f104) Tryz.func104 rfl (names 104 _ Tryz.func104) fun F hF hro W=>?_;simp only[Tryz.ntmps104,Tryz.results104,aJ,Nat.reduceAdd,Nat.reduceSub])
  repeat' (first
  |simp -implicitDefEqProofs (disch:=first|assumption|omega) only[aA,aC,facts,Nat.reduceAdd, *]
  |((with_reducible refine jO (fun _=>?_) (fun _=>?_))<;>try omega)
  |((with_reducible refine rW (fun _=>?_) (fun _=>?_))<;>try omega)
  |((with_reducible refine dI 135 ?_);refine PC.useY hF (aQo w hw) (rfl) fun v hv=>?_;subst hv)
  |((with_reducible refine dI 136 ?_);refine PC.useY hF (aBi w hw) (rfl) fun v hv=>?_;subst hv))
  all_goals simp_all [Zm]
 ·(refine PC.introY 1 mix (fn:=Tryz.f104) Tryz.func104 rfl (names 104 _ Tryz.func104) fun F hF hro W=>?_;simp only[Tryz.ntmps104,Tryz.results104,aJ,Nat.reduceAdd,Nat.reduceSub])
  repeat' (first
  |simp -implicitDefEqProofs (disch:=first|assumption|omega) only[aA,aC,facts,Nat.reduceAdd, *]
  |((with_reducible refine jO (fun _=>?_) (fun _=>?_))<;>try omega))
  all_goals first|(rw[Zm,decide_eq_false h,Bool.false_and];done)|(exfalso;omega)
def Ev.small (e:Ev):Prop:=e.pitches.length<=1000000/\e.ties.length<=1000000/\e.marks.length<=1000000
def Ev.right (e:Ev):Bool:=e.value.right && (Zm e.word && (Ve e.marks && (decide (e.ties.length=e.pitches.length) &&
  (if e.kind=0 then decide (e.pitches.length=0) && (e.word.toList==[]) && !(e.marks.any fun m=>m !=4)
   else decide (e.kind=1) && (decide (1<=e.pitches.length/\e.pitches.length<=8) && ((e.pitches.all Pi.right) && Dk (fun a b=>decide (a.cmp b>0)) e.pitches))))))
theorem vM (e:Ev) (hs:e.small):PC Tryz.prog gl 69 [e.av] (fun v=>v= .bool e.right):=by
 obtain⟨hs1,hs2,hs3⟩:=hs
 (refine PC.introY 2 mix (fn:=Tryz.f69) Tryz.func69 rfl (names 69 _ Tryz.func69) fun F hF hro W=>?_;simp only[Tryz.ntmps69,Tryz.results69,aJ,Nat.reduceAdd,Nat.reduceSub])
 repeat' (first
  |simp -implicitDefEqProofs (disch:=first|assumption|omega) only[aA,aC,facts,if_pos,Nat.reduceAdd,Nat.reduceEqDiff,Nat.reduceLeDiff,Ev.av,aGe, *]
  |((with_reducible refine aF (fun _=>?_) (fun _=>?_))<;>try omega)
  |((with_reducible refine dL (fun _=>?_) (fun _=>?_))<;>try omega)
  |((with_reducible refine iP (fun _=>?_) (fun _=>?_))<;>try omega)
  |((with_reducible refine jV (fun _=>?_) (fun _=>?_))<;>try omega)
  |((with_reducible refine rW (fun _=>?_) (fun _=>?_))<;>try omega)
  |((with_reducible refine dI 103 ?_);refine PC.useY hF (Ee e.value) (rfl) fun v hv=>?_;subst hv)
  |((with_reducible refine dI 104 ?_);refine PC.useY hF (aQf e.word) (rfl) fun v hv=>?_;subst hv)
  |((with_reducible refine dI 105 ?_);refine PC.useY hF (aPj e.marks hs3) (rfl) fun v hv=>?_;subst hv)
  |((with_reducible refine dI 106 ?_);refine PC.useY hF (Ue e.marks _ [] (fun m=>m !=4) hs3 rfl rfl (fun _=>rfl) (fun a _=>aPh a)) (rfl) fun v hv=>?_;subst hv))
 all_goals try first|(simp_all [Ev.right];done)|(simp_all [Ev.right];omega)|grind[Ev.right]
 refine kJ (fE 77 [1,64,65,66]) [] 200 e.pitches.length (fun i (_:Unit)=>⟨[.ud,.ptr 0 0,.ud,.ud,.ud,.ud,.ud,.ud,.ud,.ud,.ud,.ud,.ud,.ud,.ud,.ud,.ud,.ud,.ud,.ud,.ud,.ud,.ud,.ud,.ud,.ud,.ud,.ud,.ud,.ud,.ud,.ud,.ud,.ud,.ud,.ud,.ud,.ud,.ud,.ud,.ud,.ud,.ud,.ud,.ud,.ud,.ud,.ud,.ud,.ud,.ud,.ud,.ud,.ud,.ud,.ud,.ud,.ud,.ud,.ud,.ud,.ud,.ud,.ud,.sl 3 (e.pitches.map Pi.av) .none,.int .i64 (e.pitches.length:Nat),.int .i64 (i:Nat),.ud,.ud,.ud,.ud,.ud,.ud,.ud,.ud,.ud,.ud],[]⟩) (fun _ _=>⟨[(0,.cells e.cells)],200⟩) (fun i _=> ∀j,j<i-> ∀h:j<e.pitches.length,e.pitches[j].right=true) () oL rfl rfl ?_
 rintro i ⟨⟩ hi hQ
 repeat' (first
  |simp -implicitDefEqProofs (disch:=first|assumption|omega) only[aA,aC,facts,if_pos,Nat.reduceAdd,Nat.reduceLeDiff,wrap_in,List.getElem?_eq_getElem,Pi.av,Ev.cells, *]
  |((with_reducible refine aF (fun _=>?_) (fun _=>?_))<;>try omega)
  |((with_reducible refine dS (fun _=>?_) (fun _=>?_))<;>try omega)
  |((with_reducible refine dI 108 ?_);refine PC.useY hF (nM _) (rfl) fun v hv=>?_;subst hv)
  |((with_reducible refine dI 109 ?_);refine PC.useY hF (aLw e.pitches _ _ hs1 aPi) (rfl) fun v hv=>?_;subst hv))
 ·rename_i h
  exact fJ () (by omega) (lV hQ fun _=>h) rfl rfl
 ·rename_i h1 h
  have hall:e.pitches.all Pi.right=false:=zT (i:=i) (by omega) h
  grind[Ev.right]
 ·have hall:e.pitches.all Pi.right=true:=Wy fun j hj=>hQ j (by omega) hj
  grind[Ev.right]
end Go.Proofs.Pv
