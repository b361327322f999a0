/-
  Chapter 9's laws: the closed part, awake, walked with its calls' contracts.
  Conditions: the program's variables hold what its text lays into them.
-/
import Derived.Test.YtbeclcideapopaaGreatDoorC14a
set_option linter.unusedVariables false
set_option linter.unusedSimpArgs false
set_option maxRecDepth 100000
set_option maxHeartbeats 16000000
namespace Go.Proofs.Pv
open Go Go.Proofs
def qO:Ev:=⟨1,[⟨0,0,4⟩],[false],⟨2,0,0,0⟩,[],⟨#[]⟩⟩
def vU:Ev:=⟨0,[],[],⟨2,0,0,0⟩,[],⟨#[]⟩⟩
def Wl:Ba:=⟨⟨1,4,[]⟩,⟨0,false⟩,⟨false,0,[],false,false,false,false,0⟩,[]⟩
def nU (t:ByteArray) (e:Ev):Sc:=⟨t,[Wl],[⟨⟨#[]⟩,0,0,[[⟨[e]⟩]],[[]]⟩]⟩
def Qg (e:Ev):aJ:=⟨1,0,0,0,0,1,[e],[],[],[],0,0,⟨#[]⟩⟩
theorem Nj (t:ByteArray) (e:Ev):(nU t e).typed:=by
 refine⟨fun b hb=>?_,fun p hp d hd x hx=>?_⟩
 ·simp only[nU,List.mem_singleton] at hb
  subst hb
  exact⟨by unfold I64;decide,by unfold I64;decide,fun t ht=>by simp [Wl] at ht⟩
 ·simp only[nU,List.mem_singleton] at hp
  subst hp
  simp only[List.mem_singleton] at hd
  subst hd
  cases hx
def oTit:aJ:=⟨9,0,0,0,0,0,[],[],[],[],0,0,⟨#[97]⟩⟩
theorem Wn (e:Ev) (h:e.small):(Qg e).fine:=⟨(fun x hx=>by simp only[Qg,List.mem_singleton] at hx;subst hx;exact h),(show 1<=400000 by decide),(fun _ hb=>nomatch hb),(show 0<=400000 by decide),(fun _ hb=>nomatch hb),(show 0<=1000000 by decide),(fun _ hb=>nomatch hb),(show 0<=1000000 by decide),qF,qF⟩
theorem aD9 (k:Int) (t:ByteArray):(⟨k,0,0,0,0,0,[],[],[],[],0,0,t⟩:aJ).fine:=⟨(fun _ hb=>nomatch hb),(show 0<=400000 by decide),(fun _ hb=>nomatch hb),(show 0<=400000 by decide),(fun _ hb=>nomatch hb),(show 0<=1000000 by decide),(fun _ hb=>nomatch hb),(show 0<=1000000 by decide),qF,qF⟩
theorem Qs (t:ByteArray) (e:Ev) (o:aJ) (ho:o.fine) (h1:(nU t e).fewB=true) {r:AV} (hr:rU (dD (nU t e) o)=r):PC Tryz.prog gl 9 [(nU t e).av,o.av] (fun v=>v=r):=by
 rw[<-hr]
 exact aCu _ _ (Xw (Nj t e) h1) ho
def txtA:ByteArray:=⟨#[97]⟩
def rC:ByteArray:=⟨#[]⟩
theorem aDn:(nU rC qO).fewB=true:=by kernel_rfl
theorem fewR0:(nU rC vU).fewB=true:=by kernel_rfl
theorem chkN0:(nU rC qO).checkR.2=0:=by kernel_rfl
theorem aTy:qO.small:=⟨by decide,by decide,by decide⟩
theorem aLo:vU.small:=⟨by decide,by decide,by decide⟩
def aI2:aJ:=⟨9,0,0,0,0,0,[],[],[],[],0,0,rC⟩
def oZero:aJ:=⟨0,0,0,0,0,0,[],[],[],[],0,0,rC⟩
theorem aTz:PC Tryz.prog gl 9 [(nU rC qO).av,(Qg vU).av] (fun v=>v= .tup [(nU rC vU).av,(Qg qO).av,.int .i64 0]):=Qs _ _ _ (Wn vU aLo) aDn (by kernel_rfl)
theorem aT0:PC Tryz.prog gl 9 [(nU rC vU).av,(Qg qO).av] (fun v=>v= .tup [(nU rC qO).av,(Qg vU).av,.int .i64 0]):=Qs _ _ _ (Wn qO aTy) fewR0 (by kernel_rfl)
theorem aR5:PC Tryz.prog gl 9 [(nU rC qO).av,oZero.av] (fun v=>v=errR 90):=Qs _ _ _ (aD9 0 _) aDn (by kernel_rfl)
theorem aR6:PC Tryz.prog gl 7 [(nU rC qO).av,Jn [oTit,Qg vU]] (fun v=>v= .tup [(nU txtA vU).av,.sl 13 [(Qg qO).av,aI2.av] .none,.int .i64 2,.int .i64 0]):=by
 have h:=aBb (nU rC qO) [oTit,Qg vU] (Xw (Nj _ _) aDn) (fun o ho=>by
  simp only[List.mem_cons,List.not_mem_nil,or_false] at ho
  rcases ho with rfl|rfl
  ·exact aD9 9 _
  ·exact Wn vU aLo) (show 2<=1000000 by decide)
 rwa [show Bl (kG (nU rC qO) [oTit,Qg vU])= .tup [(nU txtA vU).av,.sl 13 [(Qg qO).av,aI2.av] .none,.int .i64 2,.int .i64 0] from by kernel_rfl] at h
theorem aR7:PC Tryz.prog gl 10 [] (fun v=>v=(nU rC qO).av):=by
 (refine PC.introZ 2 mix (fn:=Tryz.f10) Tryz.func10 rfl (names 10 _ Tryz.func10) fun F hF hro W=>?_;simp only[Tryz.ntmps10,Tryz.results10,aI,Nat.reduceAdd,Nat.reduceSub])
 repeat' (simp -implicitDefEqProofs only[↓reduceIte,aA,aC,facts,Nat.reduceAdd,Nat.reduceEqDiff,Nat.reduceLT,Nat.reduceLeDiff, *])
 all_goals rfl
theorem aT1:PC Tryz.prog gl 123 [vU.av,qO.av] (fun v=>v= .bool false):=by
 (refine PC.introZ 2 mix (fn:=Tryz.f123) Tryz.func123 rfl (names 123 _ Tryz.func123) fun F hF hro W=>?_;simp only[Tryz.ntmps123,Tryz.results123,aI,Nat.reduceAdd,Nat.reduceSub])
 repeat' (simp -implicitDefEqProofs only[↓reduceIte,aA,aC,facts,Nat.reduceAdd,Nat.reduceEqDiff,Nat.reduceLeDiff,Int.reduceBNe,qO,vU,Ev.av, *])
theorem aT2:PC Tryz.prog gl 82 [(⟨[vU]⟩:Vo).av,(⟨[qO]⟩:Vo).av] (fun v=>v= .bool false):=by
 (refine PC.introZ 2 mix (fn:=Tryz.f82) Tryz.func82 rfl (names 82 _ Tryz.func82) fun F hF hro W=>?_;simp only[Tryz.ntmps82,Tryz.results82,aI,Nat.reduceAdd,Nat.reduceSub])
 repeat' (first
  |simp -implicitDefEqProofs only[↓reduceIte,aA,aC,facts,Nat.reduceAdd,Nat.reduceEqDiff,Int.reduceLT,Int.reduceLE,qO,vU,Ev.av,Vo.av,bne_self_eq_false,bF,aU,aV,aW, *]
  |((with_reducible refine dG 123 ?_);refine bW aT1 (rfl) ?_)
  |((with_reducible refine aO ?_);refine bP (by decide+kernel) ?_)
  |((with_reducible refine Zg ?_);kernel_rfl)
  |((with_reducible refine Zw ?_);refine Be 2 ?_))
theorem aT3:PC Tryz.prog gl 45 [bU [⟨[vU]⟩],bU [⟨[qO]⟩]] (fun v=>v= .bool false):=by
 (refine PC.introZ 2 mix (fn:=Tryz.f45) Tryz.func45 rfl (names 45 _ Tryz.func45) fun F hF hro W=>?_;simp only[Tryz.ntmps45,Tryz.results45,aI,Nat.reduceAdd,Nat.reduceSub])
 repeat' (first
  |simp -implicitDefEqProofs only[↓reduceIte,aA,aC,facts,Nat.reduceAdd,Int.reduceLT,Int.reduceLE,qO,vU,Ev.av,Vo.av,bU,bne_self_eq_false,bF,aU,aV,aW, *]
  |((with_reducible refine dG 82 ?_);refine bW aT2 (rfl) ?_)
  |((with_reducible refine aO ?_);refine bP (by decide+kernel) ?_)
  |((with_reducible refine Zg ?_);kernel_rfl)
  |((with_reducible refine Zw ?_);refine Be 2 ?_))
theorem aT4:PC Tryz.prog gl 19 [(⟨⟨#[]⟩,0,0,[[⟨[vU]⟩]],[[]]⟩:Pa).av,(⟨⟨#[]⟩,0,0,[[⟨[qO]⟩]],[[]]⟩:Pa).av] (fun v=>v= .bool false):=by
 (refine PC.introZ 2 mix (fn:=Tryz.f19) Tryz.func19 rfl (names 19 _ Tryz.func19) fun F hF hro W=>?_;simp only[Tryz.ntmps19,Tryz.results19,aI,Nat.reduceAdd,Nat.reduceSub])
 repeat' (first
  |simp -implicitDefEqProofs only[↓reduceIte,aA,aC,facts,Nat.reduceAdd,Nat.reduceEqDiff,Nat.reduceLeDiff,Int.reduceLT,Int.reduceLE,qO,vU,Pa.av,Ev.av,Vo.av,bU,eP,bne_self_eq_false,bF,aU,aV,aW, *]
  |((with_reducible refine dG 45 ?_);refine bW aT3 (rfl) ?_)
  |((with_reducible refine aO ?_);refine bP (by decide+kernel) ?_)
  |((with_reducible refine Zg ?_);kernel_rfl)
  |((with_reducible refine Zw ?_);refine Be 2 ?_))
theorem aLp:PC Tryz.prog gl 18 [Wl.av,Wl.av] (fun v=>v= .bool true):=Zn Wl ⟨by decide,by decide,by decide⟩
theorem aT5:PC Tryz.prog gl 8 [(nU rC vU).av,(nU rC qO).av] (fun v=>v= .bool false):=by
 (refine PC.introZ 2 mix (fn:=Tryz.f8) Tryz.func8 rfl (names 8 _ Tryz.func8) fun F hF hro W=>?_;simp only[Tryz.ntmps8,Tryz.results8,aI,Nat.reduceAdd,Nat.reduceSub])
 repeat' (first
  |simp -implicitDefEqProofs only[↓reduceIte,aA,aC,facts,Nat.reduceAdd,Nat.reduceEqDiff,Nat.reduceLeDiff,Int.reduceLT,Int.reduceLE,Int.reduceAdd,(wrap_in (by decide):IntKind.i64.wrap 1=1),nU,Wl,qO,vU,rC,Sc.av,Pa.av,Ba.av,Ev.av,Vo.av,bU,eP,bne_self_eq_false,bF,aU,aV,aW, *]
  |((with_reducible refine dG 19 ?_);refine bW aT4 (rfl) ?_)
  |((with_reducible refine dG 18 ?_);refine bW aLp (rfl) ?_)
  |((with_reducible refine aO ?_);refine bP (by decide+kernel) ?_)
  |((with_reducible refine dP ?_ ?_);· decide+kernel)
  |((with_reducible refine Zg ?_);kernel_rfl)
  |((with_reducible refine Zw ?_);refine Be 2 ?_))
theorem aT6:PC Tryz.prog gl 8 [(nU rC qO).av,(nU rC qO).av] (fun v=>v= .bool true):=by
 have c:=chkN0
 have f:=Xw (Nj rC qO) aDn
 exact aIv f c
theorem aLq:PC Tryz.prog gl 4 [] (fun v=>v= .bool true):=by
 have r:=aR6
 have a1:=aTz
 have a2:=aT0
 have a3:=aR5
 have s1:=aT6
 have s2:=aT5
 have o:=aR7
 unfold Jn at r
 (refine PC.introZ 2 mix (fn:=Tryz.f4) Tryz.func4 rfl (names 4 _ Tryz.func4) fun F hF hro W=>?_;simp only[Tryz.ntmps4,Tryz.results4,aI,Nat.reduceAdd,Nat.reduceSub])
 repeat' (first
  |simp -implicitDefEqProofs only[↓reduceIte,aA,aC,facts,Nat.reduceAdd,Nat.reduceEqDiff,Nat.reduceLT,Nat.reduceLeDiff,Nat.reduceMul,Int.reduceLE,aJ.av,Qg,aI2,errR,nU,Wl,qO,vU,rC,txtA,Sc.av,Pa.av,Ba.av,Ev.av,Vo.av,bU,eP,bF,aU,aV,dA,aW, *]
  |((with_reducible refine dG 10 ?_);refine bW o (rfl) ?_)
  |((with_reducible refine dG 9 ?_);refine bW a1 (rfl) ?_)
  |((with_reducible refine dG 7 ?_);refine bW r (rfl) ?_)
  |((with_reducible refine dG 8 ?_);refine bW s1 (rfl) ?_)
  |((with_reducible refine dG 8 ?_);refine bW s2 (rfl) ?_)
  |((with_reducible refine aO ?_);refine bP (by decide+kernel) ?_)
  |((with_reducible refine dP ?_ ?_);· decide+kernel)
  |((with_reducible refine Zg ?_);kernel_rfl)
  |((with_reducible refine aS 10 ?_);refine PC.useZ hF o (rfl) fun v hv=>?_;subst hv)
  |((with_reducible refine aS 9 ?_);refine PC.useZ hF a2 (rfl) fun v hv=>?_;subst hv)
  |((with_reducible refine aS 9 ?_);refine PC.useZ hF a3 (rfl) fun v hv=>?_;subst hv))
end Go.Proofs.Pv
