/-
  Chapter 9's laws: the closed part, awake, walked with its calls' contracts.
  Conditions: the program's variables hold what its text lays into them.
-/
import Derived.Test.YthaakfgepndmaaaGreatDoorC14a
set_option linter.unusedVariables false
set_option linter.unusedSimpArgs false
set_option maxRecDepth 100000
set_option maxHeartbeats 16000000
namespace Go.Proofs.Pv
open Go Go.Proofs
def qM:Ev:=⟨1,[⟨0,0,4⟩],[false],⟨2,0,0,0⟩,[],⟨#[]⟩⟩
def vU:Ev:=⟨0,[],[],⟨2,0,0,0⟩,[],⟨#[]⟩⟩
def Wi:Ba:=⟨⟨1,4,[]⟩,⟨0,false⟩,⟨false,0,[],false,false,false,false,0⟩,[]⟩
def nU (t:ByteArray) (e:Ev):Sc:=⟨t,[Wi],[⟨⟨#[]⟩,0,0,[[⟨[e]⟩]],[[]]⟩]⟩
def Qb (e:Ev):aJ:=⟨1,0,0,0,0,1,[e],[],[],[],0,0,⟨#[]⟩⟩
theorem Na (t:ByteArray) (e:Ev):(nU t e).typed:=by
 refine⟨fun b hb=>?_,fun p hp d hd x hx=>?_⟩
 ·simp only[nU,List.mem_singleton] at hb
  subst hb
  exact⟨by unfold I64;decide,by unfold I64;decide,fun t ht=>by simp [Wi] at ht⟩
 ·simp only[nU,List.mem_singleton] at hp
  subst hp
  simp only[List.mem_singleton] at hd
  subst hd
  cases hx
def oTit:aJ:=⟨9,0,0,0,0,0,[],[],[],[],0,0,⟨#[97]⟩⟩
theorem Wj (e:Ev) (h:e.small):(Qb e).fine:=⟨(fun x hx=>by simp only[Qb,List.mem_singleton] at hx;subst hx;exact h),(show 1<=400000 by decide),(fun _ hb=>nomatch hb),(show 0<=400000 by decide),(fun _ hb=>nomatch hb),(show 0<=1000000 by decide),(fun _ hb=>nomatch hb),(show 0<=1000000 by decide),rQ,rQ⟩
theorem aD8 (k:Int) (t:ByteArray):(⟨k,0,0,0,0,0,[],[],[],[],0,0,t⟩:aJ).fine:=⟨(fun _ hb=>nomatch hb),(show 0<=400000 by decide),(fun _ hb=>nomatch hb),(show 0<=400000 by decide),(fun _ hb=>nomatch hb),(show 0<=1000000 by decide),(fun _ hb=>nomatch hb),(show 0<=1000000 by decide),rQ,rQ⟩
theorem Qp (t:ByteArray) (e:Ev) (o:aJ) (ho:o.fine) (h1:(nU t e).fewB=true) {r:AV} (hr:rY (eY (nU t e) o)=r):PC Tryz.prog gl 9 [(nU t e).av,o.av] (fun v=>v=r):=by
 rw[<-hr]
 exact aCr _ _ (Xt (Na t e) h1) ho
def txtA:ByteArray:=⟨#[97]⟩
def rC:ByteArray:=⟨#[]⟩
theorem aDk:(nU rC qM).fewB=true:=by kernel_rfl
theorem fewR0:(nU rC vU).fewB=true:=by kernel_rfl
theorem chkN0:(nU rC qM).checkR.2=0:=by kernel_rfl
theorem aTo:qM.small:=⟨by decide,by decide,by decide⟩
theorem aLl:vU.small:=⟨by decide,by decide,by decide⟩
def aI1:aJ:=⟨9,0,0,0,0,0,[],[],[],[],0,0,rC⟩
def oZero:aJ:=⟨0,0,0,0,0,0,[],[],[],[],0,0,rC⟩
theorem aTp:PC Tryz.prog gl 9 [(nU rC qM).av,(Qb vU).av] (fun v=>v= .tup [(nU rC vU).av,(Qb qM).av,.int .i64 0]):=Qp _ _ _ (Wj vU aLl) aDk (by kernel_rfl)
theorem aTq:PC Tryz.prog gl 9 [(nU rC vU).av,(Qb qM).av] (fun v=>v= .tup [(nU rC qM).av,(Qb vU).av,.int .i64 0]):=Qp _ _ _ (Wj qM aTo) fewR0 (by kernel_rfl)
theorem aRy:PC Tryz.prog gl 9 [(nU rC qM).av,oZero.av] (fun v=>v=errR 90):=Qp _ _ _ (aD8 0 _) aDk (by kernel_rfl)
theorem aRz:PC Tryz.prog gl 7 [(nU rC qM).av,vT [oTit,Qb vU]] (fun v=>v= .tup [(nU txtA vU).av,.sl 13 [(Qb qM).av,aI1.av] .none,.int .i64 2,.int .i64 0]):=by
 have h:=Vb (nU rC qM) [oTit,Qb vU] (Xt (Na _ _) aDk) (fun o ho=>by
  simp only[List.mem_cons,List.not_mem_nil,or_false] at ho
  rcases ho with rfl|rfl
  ·exact aD8 9 _
  ·exact Wj vU aLl) (show 2<=1000000 by decide)
 rwa [show xK (eP (nU rC qM) [oTit,Qb vU])= .tup [(nU txtA vU).av,.sl 13 [(Qb qM).av,aI1.av] .none,.int .i64 2,.int .i64 0] from by kernel_rfl] at h
theorem aR0:PC Tryz.prog gl 10 [] (fun v=>v=(nU rC qM).av):=by
 (refine PC.introZ 2 mix (fn:=Tryz.f10) Tryz.func10 rfl (names 10 _ Tryz.func10) fun F hF hro W=>?_;simp only[Tryz.ntmps10,Tryz.results10,aI,Nat.reduceAdd,Nat.reduceSub])
 repeat' (simp -implicitDefEqProofs only[↓reduceIte,aA,aC,facts,Nat.reduceAdd,Nat.reduceEqDiff,Nat.reduceLT,Nat.reduceLeDiff, *])
 all_goals rfl
theorem aTr:PC Tryz.prog gl 124 [vU.av,qM.av] (fun v=>v= .bool false):=by
 (refine PC.introZ 2 mix (fn:=Tryz.f124) Tryz.func124 rfl (names 124 _ Tryz.func124) fun F hF hro W=>?_;simp only[Tryz.ntmps124,Tryz.results124,aI,Nat.reduceAdd,Nat.reduceSub])
 repeat' (simp -implicitDefEqProofs only[↓reduceIte,aA,aC,facts,Nat.reduceAdd,Nat.reduceEqDiff,Nat.reduceLeDiff,Int.reduceBNe,qM,vU,Ev.av, *])
theorem aTs:PC Tryz.prog gl 83 [(⟨[vU]⟩:Vo).av,(⟨[qM]⟩:Vo).av] (fun v=>v= .bool false):=by
 (refine PC.introZ 2 mix (fn:=Tryz.f83) Tryz.func83 rfl (names 83 _ Tryz.func83) fun F hF hro W=>?_;simp only[Tryz.ntmps83,Tryz.results83,aI,Nat.reduceAdd,Nat.reduceSub])
 repeat' (first
  |simp -implicitDefEqProofs only[↓reduceIte,aA,aC,facts,Nat.reduceAdd,Nat.reduceEqDiff,Int.reduceLT,Int.reduceLE,qM,vU,Ev.av,Vo.av,bne_self_eq_false,bF,aT,aU,aW, *]
  |((with_reducible refine dE 124 ?_);refine bU aTr (rfl) ?_)
  |((with_reducible refine aN ?_);refine bI (by decide+kernel) ?_)
  |((with_reducible refine Uw ?_);kernel_rfl)
  |((with_reducible refine Zt ?_);refine Aw 2 ?_))
theorem aTt:PC Tryz.prog gl 45 [bV [⟨[vU]⟩],bV [⟨[qM]⟩]] (fun v=>v= .bool false):=by
 (refine PC.introZ 2 mix (fn:=Tryz.f45) Tryz.func45 rfl (names 45 _ Tryz.func45) fun F hF hro W=>?_;simp only[Tryz.ntmps45,Tryz.results45,aI,Nat.reduceAdd,Nat.reduceSub])
 repeat' (first
  |simp -implicitDefEqProofs only[↓reduceIte,aA,aC,facts,Nat.reduceAdd,Int.reduceLT,Int.reduceLE,qM,vU,Ev.av,Vo.av,bV,bne_self_eq_false,bF,aT,aU,aW, *]
  |((with_reducible refine dE 83 ?_);refine bU aTs (rfl) ?_)
  |((with_reducible refine aN ?_);refine bI (by decide+kernel) ?_)
  |((with_reducible refine Uw ?_);kernel_rfl)
  |((with_reducible refine Zt ?_);refine Aw 2 ?_))
theorem aTu:PC Tryz.prog gl 19 [(⟨⟨#[]⟩,0,0,[[⟨[vU]⟩]],[[]]⟩:Pa).av,(⟨⟨#[]⟩,0,0,[[⟨[qM]⟩]],[[]]⟩:Pa).av] (fun v=>v= .bool false):=by
 (refine PC.introZ 2 mix (fn:=Tryz.f19) Tryz.func19 rfl (names 19 _ Tryz.func19) fun F hF hro W=>?_;simp only[Tryz.ntmps19,Tryz.results19,aI,Nat.reduceAdd,Nat.reduceSub])
 repeat' (first
  |simp -implicitDefEqProofs only[↓reduceIte,aA,aC,facts,Nat.reduceAdd,Nat.reduceEqDiff,Nat.reduceLeDiff,Int.reduceLT,Int.reduceLE,qM,vU,Pa.av,Ev.av,Vo.av,bV,eH,bne_self_eq_false,bF,aT,aU,aW, *]
  |((with_reducible refine dE 45 ?_);refine bU aTt (rfl) ?_)
  |((with_reducible refine aN ?_);refine bI (by decide+kernel) ?_)
  |((with_reducible refine Uw ?_);kernel_rfl)
  |((with_reducible refine Zt ?_);refine Aw 2 ?_))
theorem aLm:PC Tryz.prog gl 18 [Wi.av,Wi.av] (fun v=>v= .bool true):=Zk Wi ⟨by decide,by decide,by decide⟩
theorem aTv:PC Tryz.prog gl 8 [(nU rC vU).av,(nU rC qM).av] (fun v=>v= .bool false):=by
 (refine PC.introZ 2 mix (fn:=Tryz.f8) Tryz.func8 rfl (names 8 _ Tryz.func8) fun F hF hro W=>?_;simp only[Tryz.ntmps8,Tryz.results8,aI,Nat.reduceAdd,Nat.reduceSub])
 repeat' (first
  |simp -implicitDefEqProofs only[↓reduceIte,aA,aC,facts,Nat.reduceAdd,Nat.reduceEqDiff,Nat.reduceLeDiff,Int.reduceLT,Int.reduceLE,Int.reduceAdd,(wrap_in (by decide):IntKind.i64.wrap 1=1),nU,Wi,qM,vU,rC,Sc.av,Pa.av,Ba.av,Ev.av,Vo.av,bV,eH,bne_self_eq_false,bF,aT,aU,aW, *]
  |((with_reducible refine dE 19 ?_);refine bU aTu (rfl) ?_)
  |((with_reducible refine dE 18 ?_);refine bU aLm (rfl) ?_)
  |((with_reducible refine aN ?_);refine bI (by decide+kernel) ?_)
  |((with_reducible refine dN ?_ ?_);· decide+kernel)
  |((with_reducible refine Uw ?_);kernel_rfl)
  |((with_reducible refine Zt ?_);refine Aw 2 ?_))
theorem aTw:PC Tryz.prog gl 8 [(nU rC qM).av,(nU rC qM).av] (fun v=>v= .bool true):=by
 have c:=chkN0
 have f:=Xt (Na rC qM) aDk
 exact aIu f c
theorem aLn:PC Tryz.prog gl 4 [] (fun v=>v= .bool true):=by
 have r:=aRz
 have a1:=aTp
 have a2:=aTq
 have a3:=aRy
 have s1:=aTw
 have s2:=aTv
 have o:=aR0
 unfold vT at r
 (refine PC.introZ 2 mix (fn:=Tryz.f4) Tryz.func4 rfl (names 4 _ Tryz.func4) fun F hF hro W=>?_;simp only[Tryz.ntmps4,Tryz.results4,aI,Nat.reduceAdd,Nat.reduceSub])
 repeat' (first
  |simp -implicitDefEqProofs only[↓reduceIte,aA,aC,facts,Nat.reduceAdd,Nat.reduceEqDiff,Nat.reduceLT,Nat.reduceLeDiff,Nat.reduceMul,Int.reduceLE,aJ.av,Qb,aI1,errR,nU,Wi,qM,vU,rC,txtA,Sc.av,Pa.av,Ba.av,Ev.av,Vo.av,bV,eH,bF,aT,aU,cZ,aW, *]
  |((with_reducible refine dE 10 ?_);refine bU o (rfl) ?_)
  |((with_reducible refine dE 9 ?_);refine bU a1 (rfl) ?_)
  |((with_reducible refine dE 7 ?_);refine bU r (rfl) ?_)
  |((with_reducible refine dE 8 ?_);refine bU s1 (rfl) ?_)
  |((with_reducible refine dE 8 ?_);refine bU s2 (rfl) ?_)
  |((with_reducible refine aN ?_);refine bI (by decide+kernel) ?_)
  |((with_reducible refine dN ?_ ?_);· decide+kernel)
  |((with_reducible refine Uw ?_);kernel_rfl)
  |((with_reducible refine aS 10 ?_);refine PC.useZ hF o (rfl) fun v hv=>?_;subst hv)
  |((with_reducible refine aS 9 ?_);refine PC.useZ hF a2 (rfl) fun v hv=>?_;subst hv)
  |((with_reducible refine aS 9 ?_);refine PC.useZ hF a3 (rfl) fun v hv=>?_;subst hv))
end Go.Proofs.Pv
