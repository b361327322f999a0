/-
  Chapter 9's laws: the closed part, awake, walked with its calls' contracts.
  Conditions: the program's variables hold what its text lays into them.
-/
import Derived.Test.YtlcnbhiklpfpjaaGreatDoorC14a
set_option linter.unusedVariables false
set_option linter.unusedSimpArgs false
set_option maxRecDepth 100000
set_option maxHeartbeats 16000000
namespace Go.Proofs.Pv
open Go Go.Proofs
def qZ:Ev:=⟨1,[⟨0,0,4⟩],[false],⟨2,0,0,0⟩,[],⟨#[]⟩⟩
def wL:Ev:=⟨0,[],[],⟨2,0,0,0⟩,[],⟨#[]⟩⟩
def Xp:Ba:=⟨⟨1,4,[]⟩,⟨0,false⟩,⟨false,0,[],false,false,false,false,0⟩,[]⟩
def oI (t:ByteArray) (e:Ev):Sc:=⟨t,[Xp],[⟨⟨#[]⟩,0,0,[[⟨[e]⟩]],[[]]⟩]⟩
def Ri (e:Ev):aH:=⟨1,0,0,0,0,1,[e],[],[],[],0,0,⟨#[]⟩⟩
theorem Oj (t:ByteArray) (e:Ev):(oI t e).typed:=by
 refine⟨fun b hb=>?_,fun p hp d hd x hx=>?_⟩
 ·simp only[oI,List.mem_singleton] at hb
  subst hb
  exact⟨by unfold I64;decide,by unfold I64;decide,fun t ht=>by simp [Xp] at ht⟩
 ·simp only[oI,List.mem_singleton] at hp
  subst hp
  simp only[List.mem_singleton] at hd
  subst hd
  cases hx
def oTit:aH:=⟨9,0,0,0,0,0,[],[],[],[],0,0,⟨#[97]⟩⟩
theorem Xq (e:Ev) (h:e.small):(Ri e).fine:=⟨(fun x hx=>by simp only[Ri,List.mem_singleton] at hx;subst hx;exact h),(show 1<=400000 by decide),(fun _ hb=>nomatch hb),(show 0<=400000 by decide),(fun _ hb=>nomatch hb),(show 0<=1000000 by decide),(fun _ hb=>nomatch hb),(show 0<=1000000 by decide),sO,sO⟩
theorem aEz (k:Int) (t:ByteArray):(⟨k,0,0,0,0,0,[],[],[],[],0,0,t⟩:aH).fine:=⟨(fun _ hb=>nomatch hb),(show 0<=400000 by decide),(fun _ hb=>nomatch hb),(show 0<=400000 by decide),(fun _ hb=>nomatch hb),(show 0<=1000000 by decide),(fun _ hb=>nomatch hb),(show 0<=1000000 by decide),sO,sO⟩
theorem Si (t:ByteArray) (e:Ev) (o:aH) (ho:o.fine) (h1:(oI t e).fewB=true) {r:AV} (hr:sV (dA (oI t e) o)=r):PC Tryz.prog gl 9 [(oI t e).av,o.av] (fun v=>v=r):=by
 rw[<-hr]
 exact aDk _ _ (Yw (Oj t e) h1) ho
def txtA:ByteArray:=⟨#[97]⟩
def rW:ByteArray:=⟨#[]⟩
theorem aEd:(oI rW qZ).fewB=true:=by kernel_rfl
theorem fewR0:(oI rW wL).fewB=true:=by kernel_rfl
theorem chkN0:(oI rW qZ).checkR.2=0:=by kernel_rfl
theorem aUv:qZ.small:=⟨by decide,by decide,by decide⟩
theorem aMe:wL.small:=⟨by decide,by decide,by decide⟩
def aJt:aH:=⟨9,0,0,0,0,0,[],[],[],[],0,0,rW⟩
def oZero:aH:=⟨0,0,0,0,0,0,[],[],[],[],0,0,rW⟩
theorem aUw:PC Tryz.prog gl 9 [(oI rW qZ).av,(Ri wL).av] (fun v=>v= .tup [(oI rW wL).av,(Ri qZ).av,.int .i64 0]):=Si _ _ _ (Xq wL aMe) aEd (by kernel_rfl)
theorem aUx:PC Tryz.prog gl 9 [(oI rW wL).av,(Ri qZ).av] (fun v=>v= .tup [(oI rW qZ).av,(Ri wL).av,.int .i64 0]):=Si _ _ _ (Xq qZ aUv) fewR0 (by kernel_rfl)
theorem aS4:PC Tryz.prog gl 9 [(oI rW qZ).av,oZero.av] (fun v=>v=errR 90):=Si _ _ _ (aEz 0 _) aEd (by kernel_rfl)
theorem aS5:PC Tryz.prog gl 7 [(oI rW qZ).av,tY [oTit,Ri wL]] (fun v=>v= .tup [(oI txtA wL).av,.sl 13 [(Ri qZ).av,aJt.av] .none,.int .i64 2,.int .i64 0]):=by
 have h:=Wq (oI rW qZ) [oTit,Ri wL] (Yw (Oj _ _) aEd) (fun o ho=>by
  simp only[List.mem_cons,List.not_mem_nil,or_false] at ho
  rcases ho with rfl|rfl
  ·exact aEz 9 _
  ·exact Xq wL aMe) (show 2<=1000000 by decide)
 rwa [show xE (nJ (oI rW qZ) [oTit,Ri wL])= .tup [(oI txtA wL).av,.sl 13 [(Ri qZ).av,aJt.av] .none,.int .i64 2,.int .i64 0] from by kernel_rfl] at h
theorem aS6:PC Tryz.prog gl 10 [] (fun v=>v=(oI rW qZ).av):=by
 (refine PC.introZ 2 mix (fn:=Tryz.f10) Tryz.func10 rfl (names 10 _ Tryz.func10) fun F hF hro W=>?_;simp only[Tryz.ntmps10,Tryz.results10,aJ,Nat.reduceAdd,Nat.reduceSub])
 repeat' (simp -implicitDefEqProofs only[↓reduceIte,aA,aC,facts,Nat.reduceAdd,Nat.reduceEqDiff,Nat.reduceLT,Nat.reduceLeDiff, *])
 all_goals rfl
theorem aUy:PC Tryz.prog gl 124 [wL.av,qZ.av] (fun v=>v= .bool false):=by
 (refine PC.introZ 2 mix (fn:=Tryz.f124) Tryz.func124 rfl (names 124 _ Tryz.func124) fun F hF hro W=>?_;simp only[Tryz.ntmps124,Tryz.results124,aJ,Nat.reduceAdd,Nat.reduceSub])
 repeat' (simp -implicitDefEqProofs only[↓reduceIte,aA,aC,facts,Nat.reduceAdd,Nat.reduceEqDiff,Nat.reduceLeDiff,Int.reduceBNe,qZ,wL,Ev.av, *])
theorem aUz:PC Tryz.prog gl 83 [(⟨[wL]⟩:Vo).av,(⟨[qZ]⟩:Vo).av] (fun v=>v= .bool false):=by
 (refine PC.introZ 2 mix (fn:=Tryz.f83) Tryz.func83 rfl (names 83 _ Tryz.func83) fun F hF hro W=>?_;simp only[Tryz.ntmps83,Tryz.results83,aJ,Nat.reduceAdd,Nat.reduceSub])
 repeat' (first
  |simp -implicitDefEqProofs only[↓reduceIte,aA,aC,facts,Nat.reduceAdd,Nat.reduceEqDiff,Int.reduceLT,Int.reduceLE,qZ,wL,Ev.av,Vo.av,bne_self_eq_false,bF,aU,aV,aW, *]
  |((with_reducible refine dG 124 ?_);refine bW aUy (rfl) ?_)
  |((with_reducible refine aO ?_);refine bM (by decide+kernel) ?_)
  |((with_reducible refine aAb ?_);kernel_rfl)
  |((with_reducible refine aAq ?_);refine Cm 2 ?_))
theorem aU0:PC Tryz.prog gl 45 [bU [⟨[wL]⟩],bU [⟨[qZ]⟩]] (fun v=>v= .bool false):=by
 (refine PC.introZ 2 mix (fn:=Tryz.f45) Tryz.func45 rfl (names 45 _ Tryz.func45) fun F hF hro W=>?_;simp only[Tryz.ntmps45,Tryz.results45,aJ,Nat.reduceAdd,Nat.reduceSub])
 repeat' (first
  |simp -implicitDefEqProofs only[↓reduceIte,aA,aC,facts,Nat.reduceAdd,Int.reduceLT,Int.reduceLE,qZ,wL,Ev.av,Vo.av,bU,bne_self_eq_false,bF,aU,aV,aW, *]
  |((with_reducible refine dG 83 ?_);refine bW aUz (rfl) ?_)
  |((with_reducible refine aO ?_);refine bM (by decide+kernel) ?_)
  |((with_reducible refine aAb ?_);kernel_rfl)
  |((with_reducible refine aAq ?_);refine Cm 2 ?_))
theorem aU1:PC Tryz.prog gl 19 [(⟨⟨#[]⟩,0,0,[[⟨[wL]⟩]],[[]]⟩:Pa).av,(⟨⟨#[]⟩,0,0,[[⟨[qZ]⟩]],[[]]⟩:Pa).av] (fun v=>v= .bool false):=by
 (refine PC.introZ 2 mix (fn:=Tryz.f19) Tryz.func19 rfl (names 19 _ Tryz.func19) fun F hF hro W=>?_;simp only[Tryz.ntmps19,Tryz.results19,aJ,Nat.reduceAdd,Nat.reduceSub])
 repeat' (first
  |simp -implicitDefEqProofs only[↓reduceIte,aA,aC,facts,Nat.reduceAdd,Nat.reduceEqDiff,Nat.reduceLeDiff,Int.reduceLT,Int.reduceLE,qZ,wL,Pa.av,Ev.av,Vo.av,bU,eP,bne_self_eq_false,bF,aU,aV,aW, *]
  |((with_reducible refine dG 45 ?_);refine bW aU0 (rfl) ?_)
  |((with_reducible refine aO ?_);refine bM (by decide+kernel) ?_)
  |((with_reducible refine aAb ?_);kernel_rfl)
  |((with_reducible refine aAq ?_);refine Cm 2 ?_))
theorem aMf:PC Tryz.prog gl 18 [Xp.av,Xp.av] (fun v=>v= .bool true):=aAi Xp ⟨by decide,by decide,by decide⟩
theorem aU2:PC Tryz.prog gl 8 [(oI rW wL).av,(oI rW qZ).av] (fun v=>v= .bool false):=by
 (refine PC.introZ 2 mix (fn:=Tryz.f8) Tryz.func8 rfl (names 8 _ Tryz.func8) fun F hF hro W=>?_;simp only[Tryz.ntmps8,Tryz.results8,aJ,Nat.reduceAdd,Nat.reduceSub])
 repeat' (first
  |simp -implicitDefEqProofs only[↓reduceIte,aA,aC,facts,Nat.reduceAdd,Nat.reduceEqDiff,Nat.reduceLeDiff,Int.reduceLT,Int.reduceLE,Int.reduceAdd,(wrap_in (by decide):IntKind.i64.wrap 1=1),oI,Xp,qZ,wL,rW,Sc.av,Pa.av,Ba.av,Ev.av,Vo.av,bU,eP,bne_self_eq_false,bF,aU,aV,aW, *]
  |((with_reducible refine dG 19 ?_);refine bW aU1 (rfl) ?_)
  |((with_reducible refine dG 18 ?_);refine bW aMf (rfl) ?_)
  |((with_reducible refine aO ?_);refine bM (by decide+kernel) ?_)
  |((with_reducible refine dP ?_ ?_);· decide+kernel)
  |((with_reducible refine aAb ?_);kernel_rfl)
  |((with_reducible refine aAq ?_);refine Cm 2 ?_))
theorem aU3:PC Tryz.prog gl 8 [(oI rW qZ).av,(oI rW qZ).av] (fun v=>v= .bool true):=by
 have c:=chkN0
 have f:=Yw (Oj rW qZ) aEd
 exact Oc f c
theorem aMg:PC Tryz.prog gl 4 [] (fun v=>v= .bool true):=by
 have r:=aS5
 have a1:=aUw
 have a2:=aUx
 have a3:=aS4
 have s1:=aU3
 have s2:=aU2
 have o:=aS6
 unfold tY at r
 (refine PC.introZ 2 mix (fn:=Tryz.f4) Tryz.func4 rfl (names 4 _ Tryz.func4) fun F hF hro W=>?_;simp only[Tryz.ntmps4,Tryz.results4,aJ,Nat.reduceAdd,Nat.reduceSub])
 repeat' (first
  |simp -implicitDefEqProofs only[↓reduceIte,aA,aC,facts,Nat.reduceAdd,Nat.reduceEqDiff,Nat.reduceLT,Nat.reduceLeDiff,Nat.reduceMul,Int.reduceLE,aH.av,Ri,aJt,errR,oI,Xp,qZ,wL,rW,txtA,Sc.av,Pa.av,Ba.av,Ev.av,Vo.av,bU,eP,bF,aU,aV,dB,aW, *]
  |((with_reducible refine dG 10 ?_);refine bW o (rfl) ?_)
  |((with_reducible refine dG 9 ?_);refine bW a1 (rfl) ?_)
  |((with_reducible refine dG 7 ?_);refine bW r (rfl) ?_)
  |((with_reducible refine dG 8 ?_);refine bW s1 (rfl) ?_)
  |((with_reducible refine dG 8 ?_);refine bW s2 (rfl) ?_)
  |((with_reducible refine aO ?_);refine bM (by decide+kernel) ?_)
  |((with_reducible refine dP ?_ ?_);· decide+kernel)
  |((with_reducible refine aAb ?_);kernel_rfl)
  |((with_reducible refine aS 10 ?_);refine PC.useZ hF o (rfl) fun v hv=>?_;subst hv)
  |((with_reducible refine aS 9 ?_);refine PC.useZ hF a2 (rfl) fun v hv=>?_;subst hv)
  |((with_reducible refine aS 9 ?_);refine PC.useZ hF a3 (rfl) fun v hv=>?_;subst hv))
end Go.Proofs.Pv
