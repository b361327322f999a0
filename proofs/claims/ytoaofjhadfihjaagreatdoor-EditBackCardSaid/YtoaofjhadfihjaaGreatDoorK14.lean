/-
  Chapter 9's laws: the closed part, awake, walked with its calls' contracts.
  Conditions: the program's variables hold what its text lays into them.
-/
import Derived.Test.YtoaofjhadfihjaaGreatDoorC14a
set_option linter.unusedVariables false
set_option linter.unusedSimpArgs false
set_option maxRecDepth 100000
set_option maxHeartbeats 16000000
namespace Go.Proofs.Pv
open Go Go.Proofs
def qY:Ev:=⟨1,[⟨0,0,4⟩],[false],⟨2,0,0,0⟩,[],⟨#[]⟩⟩
def wI:Ev:=⟨0,[],[],⟨2,0,0,0⟩,[],⟨#[]⟩⟩
def Xl:Ba:=⟨⟨1,4,[]⟩,⟨0,false⟩,⟨false,0,[],false,false,false,false,0⟩,[]⟩
def oD (t:ByteArray) (e:Ev):Sc:=⟨t,[Xl],[⟨⟨#[]⟩,0,0,[[⟨[e]⟩]],[[]]⟩]⟩
def Qz (e:Ev):aH:=⟨1,0,0,0,0,1,[e],[],[],[],0,0,⟨#[]⟩⟩
theorem Og (t:ByteArray) (e:Ev):(oD t e).typed:=by
 refine⟨fun b hb=>?_,fun p hp d hd x hx=>?_⟩
 ·simp only[oD,List.mem_singleton] at hb
  subst hb
  exact⟨by unfold I64;decide,by unfold I64;decide,fun t ht=>by simp [Xl] at ht⟩
 ·simp only[oD,List.mem_singleton] at hp
  subst hp
  simp only[List.mem_singleton] at hd
  subst hd
  cases hx
def oTit:aH:=⟨9,0,0,0,0,0,[],[],[],[],0,0,⟨#[97]⟩⟩
theorem Xm (e:Ev) (h:e.small):(Qz e).fine:=⟨(fun x hx=>by simp only[Qz,List.mem_singleton] at hx;subst hx;exact h),(show 1<=400000 by decide),(fun _ hb=>nomatch hb),(show 0<=400000 by decide),(fun _ hb=>nomatch hb),(show 0<=1000000 by decide),(fun _ hb=>nomatch hb),(show 0<=1000000 by decide),sH,sH⟩
theorem aEs (k:Int) (t:ByteArray):(⟨k,0,0,0,0,0,[],[],[],[],0,0,t⟩:aH).fine:=⟨(fun _ hb=>nomatch hb),(show 0<=400000 by decide),(fun _ hb=>nomatch hb),(show 0<=400000 by decide),(fun _ hb=>nomatch hb),(show 0<=1000000 by decide),(fun _ hb=>nomatch hb),(show 0<=1000000 by decide),sH,sH⟩
theorem Rx (t:ByteArray) (e:Ev) (o:aH) (ho:o.fine) (h1:(oD t e).fewB=true) {r:AV} (hr:qO (dF (oD t e) o)=r):PC Tryz.prog gl 7 [(oD t e).av,o.av] (fun v=>v=r):=by
 rw[<-hr]
 exact Df _ _ (Yt (Og t e) h1) ho
def txtA:ByteArray:=⟨#[97]⟩
def rP:ByteArray:=⟨#[]⟩
theorem aD6:(oD rP qY).fewB=true:=by kernel_rfl
theorem fewR0:(oD rP wI).fewB=true:=by kernel_rfl
theorem chkN0:(oD rP qY).checkR.2=0:=by kernel_rfl
theorem aUr:qY.small:=⟨by decide,by decide,by decide⟩
theorem aL8:wI.small:=⟨by decide,by decide,by decide⟩
def aJl:aH:=⟨9,0,0,0,0,0,[],[],[],[],0,0,rP⟩
def oZero:aH:=⟨0,0,0,0,0,0,[],[],[],[],0,0,rP⟩
theorem aUs:PC Tryz.prog gl 7 [(oD rP qY).av,(Qz wI).av] (fun v=>v= .tup [(oD rP wI).av,(Qz qY).av,.int .i64 0]):=Rx _ _ _ (Xm wI aL8) aD6 (by kernel_rfl)
theorem aUt:PC Tryz.prog gl 7 [(oD rP wI).av,(Qz qY).av] (fun v=>v= .tup [(oD rP qY).av,(Qz wI).av,.int .i64 0]):=Rx _ _ _ (Xm qY aUr) fewR0 (by kernel_rfl)
theorem aSz:PC Tryz.prog gl 7 [(oD rP qY).av,oZero.av] (fun v=>v=errR 90):=Rx _ _ _ (aEs 0 _) aD6 (by kernel_rfl)
theorem aS0:PC Tryz.prog gl 11 [(oD rP qY).av,aBv [oTit,Qz wI]] (fun v=>v= .tup [(oD txtA wI).av,.sl 13 [(Qz qY).av,aJl.av] .none,.int .i64 2,.int .i64 0]):=by
 have h:=aT8 (oD rP qY) [oTit,Qz wI] (Yt (Og _ _) aD6) (fun o ho=>by
  simp only[List.mem_cons,List.not_mem_nil,or_false] at ho
  rcases ho with rfl|rfl
  ·exact aEs 9 _
  ·exact Xm wI aL8) (show 2<=1000000 by decide)
 rwa [show Ud (Gh (oD rP qY) [oTit,Qz wI])= .tup [(oD txtA wI).av,.sl 13 [(Qz qY).av,aJl.av] .none,.int .i64 2,.int .i64 0] from by kernel_rfl] at h
theorem aS1:PC Tryz.prog gl 10 [] (fun v=>v=(oD rP qY).av):=by
 (refine PC.introZ 2 mix (fn:=Tryz.f10) Tryz.func10 rfl (names 10 _ Tryz.func10) fun F hF hro W=>?_;simp only[Tryz.ntmps10,Tryz.results10,aJ,Nat.reduceAdd,Nat.reduceSub])
 repeat' (simp -implicitDefEqProofs only[↓reduceIte,aA,aC,facts,Nat.reduceAdd,Nat.reduceEqDiff,Nat.reduceLT,Nat.reduceLeDiff, *])
 all_goals rfl
theorem aUu:PC Tryz.prog gl 132 [wI.av,qY.av] (fun v=>v= .bool false):=by
 (refine PC.introZ 2 mix (fn:=Tryz.f132) Tryz.func132 rfl (names 132 _ Tryz.func132) fun F hF hro W=>?_;simp only[Tryz.ntmps132,Tryz.results132,aJ,Nat.reduceAdd,Nat.reduceSub])
 repeat' (simp -implicitDefEqProofs only[↓reduceIte,aA,aC,facts,Nat.reduceAdd,Nat.reduceEqDiff,Nat.reduceLeDiff,Int.reduceBNe,qY,wI,Ev.av, *])
theorem aUv:PC Tryz.prog gl 102 [(⟨[wI]⟩:Vo).av,(⟨[qY]⟩:Vo).av] (fun v=>v= .bool false):=by
 (refine PC.introZ 2 mix (fn:=Tryz.f102) Tryz.func102 rfl (names 102 _ Tryz.func102) fun F hF hro W=>?_;simp only[Tryz.ntmps102,Tryz.results102,aJ,Nat.reduceAdd,Nat.reduceSub])
 repeat' (first
  |simp -implicitDefEqProofs only[↓reduceIte,aA,aC,facts,Nat.reduceAdd,Nat.reduceEqDiff,Int.reduceLT,Int.reduceLE,qY,wI,Ev.av,Vo.av,bne_self_eq_false,bF,aU,aV,aW, *]
  |((with_reducible refine dG 132 ?_);refine bW aUu (rfl) ?_)
  |((with_reducible refine aO ?_);refine bM (by decide+kernel) ?_)
  |((with_reducible refine l9 ?_);kernel_rfl)
  |((with_reducible refine Wn ?_);refine yY 2 ?_))
theorem aUw:PC Tryz.prog gl 67 [bU [⟨[wI]⟩],bU [⟨[qY]⟩]] (fun v=>v= .bool false):=by
 (refine PC.introZ 2 mix (fn:=Tryz.f67) Tryz.func67 rfl (names 67 _ Tryz.func67) fun F hF hro W=>?_;simp only[Tryz.ntmps67,Tryz.results67,aJ,Nat.reduceAdd,Nat.reduceSub])
 repeat' (first
  |simp -implicitDefEqProofs only[↓reduceIte,aA,aC,facts,Nat.reduceAdd,Int.reduceLT,Int.reduceLE,qY,wI,Ev.av,Vo.av,bU,bne_self_eq_false,bF,aU,aV,aW, *]
  |((with_reducible refine dG 102 ?_);refine bW aUv (rfl) ?_)
  |((with_reducible refine aO ?_);refine bM (by decide+kernel) ?_)
  |((with_reducible refine l9 ?_);kernel_rfl)
  |((with_reducible refine Wn ?_);refine yY 2 ?_))
theorem aUx:PC Tryz.prog gl 28 [(⟨⟨#[]⟩,0,0,[[⟨[wI]⟩]],[[]]⟩:Pa).av,(⟨⟨#[]⟩,0,0,[[⟨[qY]⟩]],[[]]⟩:Pa).av] (fun v=>v= .bool false):=by
 (refine PC.introZ 2 mix (fn:=Tryz.f28) Tryz.func28 rfl (names 28 _ Tryz.func28) fun F hF hro W=>?_;simp only[Tryz.ntmps28,Tryz.results28,aJ,Nat.reduceAdd,Nat.reduceSub])
 repeat' (first
  |simp -implicitDefEqProofs only[↓reduceIte,aA,aC,facts,Nat.reduceAdd,Nat.reduceEqDiff,Nat.reduceLeDiff,Int.reduceLT,Int.reduceLE,qY,wI,Pa.av,Ev.av,Vo.av,bU,eP,bne_self_eq_false,bF,aU,aV,aW, *]
  |((with_reducible refine dG 67 ?_);refine bW aUw (rfl) ?_)
  |((with_reducible refine aO ?_);refine bM (by decide+kernel) ?_)
  |((with_reducible refine l9 ?_);kernel_rfl)
  |((with_reducible refine Wn ?_);refine yY 2 ?_))
theorem aL9:PC Tryz.prog gl 27 [Xl.av,Xl.av] (fun v=>v= .bool true):=aAc Xl ⟨by decide,by decide,by decide⟩
theorem aUy:PC Tryz.prog gl 8 [(oD rP wI).av,(oD rP qY).av] (fun v=>v= .bool false):=by
 (refine PC.introZ 2 mix (fn:=Tryz.f8) Tryz.func8 rfl (names 8 _ Tryz.func8) fun F hF hro W=>?_;simp only[Tryz.ntmps8,Tryz.results8,aJ,Nat.reduceAdd,Nat.reduceSub])
 repeat' (first
  |simp -implicitDefEqProofs only[↓reduceIte,aA,aC,facts,Nat.reduceAdd,Nat.reduceEqDiff,Nat.reduceLeDiff,Int.reduceLT,Int.reduceLE,Int.reduceAdd,(wrap_in (by decide):IntKind.i64.wrap 1=1),oD,Xl,qY,wI,rP,Sc.av,Pa.av,Ba.av,Ev.av,Vo.av,bU,eP,bne_self_eq_false,bF,aU,aV,aW, *]
  |((with_reducible refine dG 28 ?_);refine bW aUx (rfl) ?_)
  |((with_reducible refine dG 27 ?_);refine bW aL9 (rfl) ?_)
  |((with_reducible refine aO ?_);refine bM (by decide+kernel) ?_)
  |((with_reducible refine dP ?_ ?_);· decide+kernel)
  |((with_reducible refine l9 ?_);kernel_rfl)
  |((with_reducible refine Wn ?_);refine yY 2 ?_))
theorem aUz:PC Tryz.prog gl 8 [(oD rP qY).av,(oD rP qY).av] (fun v=>v= .bool true):=by
 have c:=chkN0
 have f:=Yt (Og rP qY) aD6
 exact Nz f c
theorem aMa:PC Tryz.prog gl 4 [] (fun v=>v= .bool true):=by
 have r:=aS0
 have a1:=aUs
 have a2:=aUt
 have a3:=aSz
 have s1:=aUz
 have s2:=aUy
 have o:=aS1
 unfold aBv at r
 (refine PC.introZ 2 mix (fn:=Tryz.f4) Tryz.func4 rfl (names 4 _ Tryz.func4) fun F hF hro W=>?_;simp only[Tryz.ntmps4,Tryz.results4,aJ,Nat.reduceAdd,Nat.reduceSub])
 repeat' (first
  |simp -implicitDefEqProofs only[↓reduceIte,aA,aC,facts,Nat.reduceAdd,Nat.reduceEqDiff,Nat.reduceLT,Nat.reduceLeDiff,Nat.reduceMul,Int.reduceLE,aH.av,Qz,aJl,errR,oD,Xl,qY,wI,rP,txtA,Sc.av,Pa.av,Ba.av,Ev.av,Vo.av,bU,eP,bF,aU,aV,dA,aW, *]
  |((with_reducible refine dG 10 ?_);refine bW o (rfl) ?_)
  |((with_reducible refine dG 7 ?_);refine bW a1 (rfl) ?_)
  |((with_reducible refine dG 11 ?_);refine bW r (rfl) ?_)
  |((with_reducible refine dG 8 ?_);refine bW s1 (rfl) ?_)
  |((with_reducible refine dG 8 ?_);refine bW s2 (rfl) ?_)
  |((with_reducible refine aO ?_);refine bM (by decide+kernel) ?_)
  |((with_reducible refine dP ?_ ?_);· decide+kernel)
  |((with_reducible refine l9 ?_);kernel_rfl)
  |((with_reducible refine aS 10 ?_);refine PC.useZ hF o (rfl) fun v hv=>?_;subst hv)
  |((with_reducible refine aS 7 ?_);refine PC.useZ hF a2 (rfl) fun v hv=>?_;subst hv)
  |((with_reducible refine aS 7 ?_);refine PC.useZ hF a3 (rfl) fun v hv=>?_;subst hv))
end Go.Proofs.Pv
