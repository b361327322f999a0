/-
  Layer 8's check of a score: words: are the bytes UTF-8?
-/
import Derived.Test.YtlcnbhiklpfpjaaGreatDoorC08o
set_option linter.unusedVariables false
set_option linter.unusedSimpArgs false
set_option maxRecDepth 100000
set_option maxHeartbeats 16000000
namespace Go.Proofs.Pv
open Go Go.Proofs
theorem aQy:gl 0=some Lt:=rfl
def mV (n:Nat):Nat:=Go.Pinned.utf8FirstZ.getD n 0
theorem aN7 (n:Nat) (h:n<256):Lt[n]?=some (.int .u8 (mV n:Nat)):=by
 have hl:Go.Pinned.utf8FirstZ.length=256:=by decide+kernel
 have:Go.Pinned.utf8FirstZ[n]?=some (mV n):=by
  rw[mV,List.getD_eq_getElem?_getD,List.getElem?_eq_getElem (by omega)];rfl
 rw[Lt,List.getElem?_map,this];rfl
theorem aK2:Lt.length=256:=by
 rw[Lt,List.length_map];decide+kernel
theorem aT0 {l:List AV} {n:Nat} {v:AV} (h:l[n]?=some v):l.drop n=v::l.drop (n+1):=by
 obtain⟨h1,h2⟩:=List.getElem?_eq_some_iff.1 h
 rw[List.drop_eq_getElem_cons h1,h2]
theorem aFs (n:Nat) (h1: ¬n<128) (h2:n<256):mV n=241\/mV n=2\/mV n=19\/mV n=3\/mV n=35\/mV n=52\/mV n=4\/mV n=68:=by
 have: ∀n:Fin 256,n.1<128\/mV n=241\/mV n=2\/mV n=19\/mV n=3\/mV n=35\/mV n=52\/mV n=4\/mV n=68:=by decide+kernel
 rcases this ⟨n,h2⟩ with h|h
 ·exact absurd h h1
 ·exact h
def dr (k:Nat) (w:ByteArray):ByteArray:=w.extract k w.size
theorem nI {k:Nat} {w:ByteArray}:(dr k w).size=w.size - k:=by rw[dr,ByteArray.size_extract,Nat.min_self]
def accLo (i:Nat):Nat:=[128,160,128,144,128].getD i 0
def accHi (i:Nat):Nat:=[191,191,159,191,143].getD i 0
def aN8 (x n b1 b2 b3:Nat):Nat:=
 if x % 8=2 then(if n<2\/b1<accLo (x / 16)\/accHi (x / 16)<b1 then 0 else 2)
 else if x % 8=3 then(if n<3\/b1<accLo (x / 16)\/accHi (x / 16)<b1\/b2<128\/191<b2 then 0 else 3)
 else if x % 8=4 then(if n<4\/b1<accLo (x / 16)\/accHi (x / 16)<b1\/b2<128\/191<b2\/b3<128\/191<b3 then 0 else 4)
 else 0
def Zz (u:ByteArray):Nat:=aN8 (mV (bt u 0).toNat) u.size (bt u 1).toNat (bt u 2).toNat (bt u 3).toNat
def mskd (n:Int):Bool:=IntKind.u64.wrap ((BitVec.ofInt IntKind.u64.bits n &&& BitVec.ofInt IntKind.u64.bits 9259542123273814144).toNat:Nat)==0
def t8 (u:ByteArray):Bool:=mskd (xK u)
def t16 (u:ByteArray):Bool:=mskd (Iz (xK u) (xK (dr 8 u)))
def t32 (u:ByteArray):Bool:=mskd (Iz (Iz (xK u) (xK (dr 8 u))) (Iz (xK (dr 16 u)) (xK (dr 24 u))))
def skip (u:ByteArray):ByteArray:=if h:32<u.size/\t32 u=true then skip (dr 32 u) else u
termination_by u.size
decreasing_by rw[nI];omega
theorem aI0 {u:ByteArray} (h:32<u.size) (h1:t32 u=true):skip u=skip (dr 32 u):=by rw[skip,dif_pos ⟨h,h1⟩]
theorem Yg {u:ByteArray} (h: ¬(32<u.size/\t32 u=true)):skip u=u:=by rw[skip,dif_neg h]
theorem aN9 {u:ByteArray}:(skip u).size<=u.size:=by
 induction hn:u.size using Nat.strongRecOn generalizing u with
 | _ n ih=>
  by_cases h:32<u.size/\t32 u=true
  ·rw[aI0 h.1 h.2]
   have:=ih (dr 32 u).size (by rw[nI];omega) rfl
   rw[nI] at this
   omega
  ·rw[Yg h];omega
def fast (u:ByteArray):ByteArray:=
 if 8<u.size/\t8 u=true then(if 16< (dr 8 u).size/\t16 (dr 8 u)=true then skip (dr 16 (dr 8 u)) else dr 8 u) else u
theorem aOa {u:ByteArray}:(fast u).size<=u.size:=by
 unfold fast
 split
 ·split
  ·have:=aN9 (u:=dr 16 (dr 8 u));rw[nI,nI] at this;omega
  ·rw[nI];omega
 ·omega
def qI (u:ByteArray):Bool:=
 if h:u.size=0 then true
 else if(bt u 0).toNat<128 then qI (fast (dr 1 u))
 else if hm:Zz u=0 then false else qI (dr (Zz u) u)
termination_by u.size
decreasing_by
 ·have:=aOa (u:=dr 1 u)
  rw[nI] at this
  omega
 ·rw[nI];omega
theorem aFt {u:ByteArray} (h:u.size≠0) (h1:(bt u 0).toNat<128):qI u=qI (fast (dr 1 u)):=by
 rw[qI,dif_neg h,if_pos h1]
theorem aK3 {u:ByteArray} (h:u.size≠0) (h1: ¬(bt u 0).toNat<128) (hm:Zz u=0):qI u=false:=by
 rw[qI,dif_neg h,if_neg h1,dif_pos hm]
theorem aFu {u:ByteArray} (h:u.size≠0) (h1: ¬(bt u 0).toNat<128) {k:Nat} (hm:Zz u=k) (hk:k≠0):qI u=qI (dr k u):=by
 rw[qI,dif_neg h,if_neg h1,dif_neg (by omega),hm]
structure Hid (p:Prop):Prop where
 get:p
theorem aQz (w:ByteArray) (hw:w.size<=1000000):PC Tryz.prog gl 135 [.str w] (fun v=>v= .bool (qI w)):=by
  (refine PC.introY 4 mix (fn:=Tryz.f135) Tryz.func135 rfl (names 135 _ Tryz.func135) fun F hF hro W=>?_;simp only[Tryz.ntmps135,Tryz.results135,aJ,Nat.reduceAdd,Nat.reduceSub])
  repeat' (simp -implicitDefEqProofs (disch:=first|assumption|omega) only[aA,aC, *])
  refine Pg (fD 169 [0]) [] 100 (fun m fr st=> ∃u:ByteArray,m=u.size/\u.size<=1000000/\qI u=qI w/\fr=⟨[.str u,.ud,.ud,.ud,.ud,.ud,.ud,.ud,.ud,.ud,.ud,.ud,.ud,.ud,.ud,.ud,.ud,.ud,.ud,.ud,.ud,.ud,.ud,.ud,.ud,.ud,.ud,.ud,.ud,.ud,.ud,.ud,.ud,.ud,.ud,.ud,.ud,.ud,.ud,.ud,.ud,.ud,.ud,.ud,.ud,.ud,.ud,.ud,.ud,.ud,.ud,.ud,.ud,.ud,.ud,.ud,.ud,.ud,.ud,.ud,.ud,.ud,.ud,.ud,.ud,.ud,.ud,.ud,.ud,.ud,.ud,.ud,.ud,.ud,.ud,.ud,.ud,.ud,.ud,.ud,.ud,.ud,.ud,.ud,.ud,.ud,.ud,.ud,.ud,.ud,.ud,.ud,.ud,.ud,.ud,.ud,.ud,.ud,.ud,.ud,.ud,.ud,.ud,.ud,.ud,.ud,.ud,.ud,.ud,.ud,.ud,.ud,.ud,.ud,.ud,.ud,.ud,.ud,.ud,.ud,.ud,.ud,.ud,.ud,.ud,.ud,.ud,.ud,.ud,.ud,.ud,.ud,.ud,.ud,.ud,.ud,.ud,.ud,.ud,.ud,.ud,.ud,.ud,.ud,.ud,.ud,.ud,.ud,.ud,.ud,.ud,.ud,.ud,.ud,.ud,.ud,.ud,.ud,.ud,.ud,.ud,.ud,.ud,.ud,.ud,.ud,.ud,.ud,.ud],[]⟩/\st=⟨[],100⟩) ⟨_,rfl,_,w,rfl,hw,rfl,rfl,rfl⟩ ?_
  rintro m fr st ⟨u,rfl,hu,hV,rfl,rfl⟩
  by_cases h0:0<u.size
  · obtain ⟨b0,hb0⟩:=byte_at h0
    obtain⟨u1,e1⟩: ∃x,u.extract 1 u.size=x:=⟨_,rfl⟩
    have s1:u1.size=u.size - 1:=by rw[<-e1,ByteArray.size_extract,Nat.min_self]
    have hbl:=b0.toNat_lt
    by_cases ha:b0.toNat<128
    · have hbt0:bt u 0=b0:=by rw[bt,hb0];rfl
      have hVa:=aFt (u:=u) (by omega) (by rw[hbt0];exact ha)
      rw[hV] at hVa
      have e1':dr 1 u=u1:=e1
      obtain⟨u9,e9⟩: ∃x,u1.extract 8 (u.size - 1)=x:=⟨_,rfl⟩
      have e9':dr 8 u1=u9:=by rw[dr,s1,e9]
      have s9:u9.size=u.size - 9:=by rw[<-e9,ByteArray.size_extract,s1];omega
      obtain⟨v9,f9⟩: ∃x,u9.extract 8 (u.size - 9)=x:=⟨_,rfl⟩
      have f9':dr 8 u9=v9:=by rw[dr,s9,f9]
      have z9:v9.size=u.size - 17:=by rw[<-f9,ByteArray.size_extract,s9];omega
      obtain⟨w9,g9⟩: ∃x,u9.extract 16 (u.size - 9)=x:=⟨_,rfl⟩
      have g9':dr 16 u9=w9:=by rw[dr,s9,g9]
      have y9:w9.size=u.size - 25:=by rw[<-g9,ByteArray.size_extract,s9];omega
      rw[e1',fast,e9'] at hVa
      have hH:=Hid.mk hVa
      clear hVa
      repeat' (first
    |simp -implicitDefEqProofs (disch:=first|assumption|omega) only[aA,aC,facts,if_pos,Nat.reduceAdd,Int.reduceLE,Int.reduceToNat,hb0,Option.map_none,bnd, *]
    |((with_reducible refine jS 156 ?_);refine dK (aBd _ (by omega)) (rfl) ?_)
    |((with_reducible refine aF (fun _=>?_) (fun _=>?_))<;>try omega)
    |((with_reducible refine dL (fun _=>?_) (fun _=>?_))<;>try omega)
    |((with_reducible refine jE (fun _=>?_) (fun _=>?_))<;>try omega)
    |((with_reducible refine uZ (fun _=>?_) (fun _=>?_))<;>try omega)
    |((with_reducible refine fQ ?_);refine gZ _ rfl (by decide+kernel) ?_)
    | ((with_reducible refine dI 156 ?_);refine PC.useY hF (aBd _ (by omega)) (rfl) fun v hv=>?_;subst hv))
      · rename_i p1 p2 p3 p4 p5 p6
        have hVa:=hH.get
        rw[if_pos ⟨by omega,p4⟩,if_pos ⟨by omega,by rw[t16,f9'];exact p6⟩,g9'] at hVa
        refine Pg (fD 169 [0]) [] 200 (fun m fr st=> ∃v:ByteArray,m=v.size/\v.size<=u.size - 25/\skip v=skip w9/\fr=⟨[.str v,.ud,.ud,.ud,.ud,.ud,.ud,.ud,.ud,.ud,.ud,.ud,.ud,.ud,.ud,.ud,.ud,.ud,.ud,.ud,.ud,.ud,.ud,.ud,.ud,.ud,.ud,.ud,.ud,.ud,.ud,.ud,.ud,.ud,.ud,.ud,.ud,.ud,.ud,.ud,.ud,.ud,.ud,.ud,.ud,.ud,.ud,.ud,.ud,.ud,.ud,.ud,.ud,.ud,.ud,.ud,.ud,.ud,.ud,.ud,.ud,.ud,.ud,.ud,.ud,.ud,.ud,.ud,.ud,.ud,.ud,.ud,.ud,.ud,.ud,.ud,.ud,.ud,.ud,.ud,.ud,.ud,.ud,.ud,.ud,.ud,.ud,.ud,.ud,.ud,.ud,.ud,.ud,.ud,.ud,.ud,.ud,.ud,.ud,.ud,.ud,.ud,.ud,.ud,.ud,.ud,.ud,.ud,.ud,.ud,.ud,.ud,.ud,.ud,.ud,.ud,.ud,.ud,.ud,.ud,.ud,.ud,.ud,.ud,.ud,.ud,.ud,.ud,.ud,.ud,.ud,.ud,.ud,.ud,.ud,.ud,.ud,.ud,.ud,.ud,.ud,.ud,.ud,.ud,.ud,.ud,.ud,.ud,.ud,.ud,.ud,.ud,.ud,.ud,.ud,.ud,.ud,.ud,.ud,.ud,.ud,.ud,.ud,.ud,.ud,.ud,.ud,.ud,.ud],[]⟩/\st=⟨[],200⟩) ⟨_,rfl,_,w9,rfl,by omega,rfl,rfl,rfl⟩ ?_
        rintro m fr st ⟨v,rfl,hv,hsk,rfl,rfl⟩
        rw[<-hsk] at hVa
        have hI:=Hid.mk hVa
        clear hVa
        by_cases h32:32<v.size
        · obtain⟨x8,k8⟩: ∃x,v.extract 8 v.size=x:=⟨_,rfl⟩
          have z8:x8.size=v.size - 8:=by rw[<-k8,ByteArray.size_extract];omega
          obtain⟨x16,k16⟩: ∃x,v.extract 16 v.size=x:=⟨_,rfl⟩
          have z16:x16.size=v.size - 16:=by rw[<-k16,ByteArray.size_extract];omega
          obtain⟨x24,k24⟩: ∃x,v.extract 24 v.size=x:=⟨_,rfl⟩
          have z24:x24.size=v.size - 24:=by rw[<-k24,ByteArray.size_extract];omega
          have ht:t32 v=mskd (Iz (Iz (xK v) (xK x8)) (Iz (xK x16) (xK x24))):=by rw[t32,dr,dr,dr,k8,k16,k24]
          repeat' (first
    |simp -implicitDefEqProofs (disch:=first|assumption|omega) only[aA,aC,facts,if_pos,Nat.reduceAdd,Int.reduceLE,Int.reduceToNat,Option.map_none,bnd, *]
    |((with_reducible refine jS 156 ?_);refine dK (aBd _ (by omega)) (rfl) ?_)
    |((with_reducible refine dL (fun _=>?_) (fun _=>?_))<;>try omega)
    |((with_reducible refine uZ (fun _=>?_) (fun _=>?_))<;>try omega)
    | ((with_reducible refine fQ ?_);refine gZ _ rfl (by decide+kernel) ?_))
          · rename_i q1 q2
            exact⟨_,rfl,_,by rw[nI];omega,dr 32 v,rfl,by rw[nI];omega,by rw[<-aI0 h32 (ht.trans q2)];exact hsk,rfl,rfl⟩
          · rename_i q1 q2
            exact⟨_,rfl,_,by omega,v,rfl,by omega,by rw[hI.get,Yg fun h=>by rw[ht] at h;exact absurd (h.2.symm.trans q2) (by decide)],rfl,rfl⟩
        · repeat' (first
    |simp -implicitDefEqProofs (disch:=first|assumption|omega) only[aA,aC,facts,Nat.reduceAdd,Option.map_none, *]
    |((with_reducible refine uZ (fun _=>?_) (fun _=>?_))<;>try omega)
    | ((with_reducible refine fQ ?_);refine gZ _ rfl (by decide+kernel) ?_))
          exact⟨_,rfl,_,by omega,v,rfl,by omega,by rw[hI.get,Yg fun h=>absurd h.1 h32],rfl,rfl⟩
      · rename_i p1 p2 p3 p4 p5 p6
        have hVa:=hH.get
        rw[if_pos ⟨by omega,p4⟩,if_neg (fun h=>by rw[t16,f9'] at h;exact absurd (h.2.symm.trans p6) (by decide))] at hVa
        exact⟨_,rfl,_,by omega,u9,rfl,by omega,hVa.symm,rfl,rfl⟩
      · rename_i p1 p2 p3 p4 p5
        have hVa:=hH.get
        rw[if_pos ⟨by omega,p4⟩,if_neg (fun h=>by omega)] at hVa
        exact⟨_,rfl,_,by omega,u9,rfl,by omega,hVa.symm,rfl,rfl⟩
      · rename_i p1 p2 p3 p4
        have hVa:=hH.get
        rw[if_neg (fun h=>absurd (h.2.symm.trans p4) (by decide))] at hVa
        exact⟨_,rfl,_,by omega,u1,rfl,by omega,hVa.symm,rfl,rfl⟩
      · rename_i p1 p2 p3
        have hVa:=hH.get
        rw[if_neg (fun h=>by omega)] at hVa
        exact⟨_,rfl,_,by omega,u1,rfl,by omega,hVa.symm,rfl,rfl⟩
    · have hfl:=aT0 (aN7 b0.toNat (by omega))
      have hB: ∀k,k<u.size->u[k]?=some (bt u k):=fun k h=>by obtain⟨b,hb⟩:=byte_at h;rw[bt,hb];rfl
      have hb1:=hB 1
      have hb2:=hB 2
      have hb3:=hB 3
      have hbt0:bt u 0=b0:=by rw[bt,hb0];rfl
      have hbad:=fun hm=>aK3 (u:=u) (by omega) (by rw[hbt0];exact ha) hm
      have hmul:=fun k hm=>aFu (u:=u) (by omega) (by rw[hbt0];exact ha) (k:=k) hm
      rw[hV] at hbad hmul
      unfold Zz at hbad hmul
      rw[hbt0] at hbad hmul
      clear hB
      generalize hc1:bt u 1=b1 at hb1 hbad hmul
      generalize hc2:bt u 2=b2 at hb2 hbad hmul
      generalize hc3:bt u 3=b3 at hb3 hbad hmul
      rcases aFs b0.toNat ha (by omega) with hx|hx|hx|hx|hx|hx|hx|hx
      all_goals
        rw[hx] at hfl hbad hmul
        simp only[aN8,accLo,accHi,Nat.reduceMod,Nat.reduceDiv,Nat.reduceEqDiff,if_true,if_false,List.getD_cons_zero,List.getD_cons_succ,List.getD_nil] at hbad hmul
        repeat' (first
    |simp -implicitDefEqProofs (disch:=first|assumption|omega) only[aA,aC,facts,if_pos,Nat.reduceAdd,Nat.reduceLeDiff,Nat.reduceMul,Int.reduceLT,Int.reduceLE,Int.reduceToNat,Int.reduceBEq,hb0,hfl,aQy,wrap_in,Option.map_none,bnd,aK2,gu,show Int.fdiv 241 (2 ^ min 4 IntKind.u8.bits)=15 from by decide,show Int.fdiv 2 (2 ^ min 4 IntKind.u8.bits)=0 from by decide,show Int.fdiv 19 (2 ^ min 4 IntKind.u8.bits)=1 from by decide,show Int.fdiv 3 (2 ^ min 4 IntKind.u8.bits)=0 from by decide,show Int.fdiv 35 (2 ^ min 4 IntKind.u8.bits)=2 from by decide,show Int.fdiv 52 (2 ^ min 4 IntKind.u8.bits)=3 from by decide,show Int.fdiv 4 (2 ^ min 4 IntKind.u8.bits)=0 from by decide,show Int.fdiv 68 (2 ^ min 4 IntKind.u8.bits)=4 from by decide,show IntKind.u8.wrap (((BitVec.ofInt IntKind.u8.bits 241 &&& BitVec.ofInt IntKind.u8.bits 7).toNat:Nat):Int)=1 from by decide,show IntKind.u8.wrap (((BitVec.ofInt IntKind.u8.bits 2 &&& BitVec.ofInt IntKind.u8.bits 7).toNat:Nat):Int)=2 from by decide,show IntKind.u8.wrap (((BitVec.ofInt IntKind.u8.bits 19 &&& BitVec.ofInt IntKind.u8.bits 7).toNat:Nat):Int)=3 from by decide,show IntKind.u8.wrap (((BitVec.ofInt IntKind.u8.bits 3 &&& BitVec.ofInt IntKind.u8.bits 7).toNat:Nat):Int)=3 from by decide,show IntKind.u8.wrap (((BitVec.ofInt IntKind.u8.bits 35 &&& BitVec.ofInt IntKind.u8.bits 7).toNat:Nat):Int)=3 from by decide,show IntKind.u8.wrap (((BitVec.ofInt IntKind.u8.bits 52 &&& BitVec.ofInt IntKind.u8.bits 7).toNat:Nat):Int)=4 from by decide,show IntKind.u8.wrap (((BitVec.ofInt IntKind.u8.bits 4 &&& BitVec.ofInt IntKind.u8.bits 7).toNat:Nat):Int)=4 from by decide,show IntKind.u8.wrap (((BitVec.ofInt IntKind.u8.bits 68 &&& BitVec.ofInt IntKind.u8.bits 7).toNat:Nat):Int)=4 from by decide, *]
    |((with_reducible refine aF (fun _=>?_) (fun _=>?_))<;>try omega)
    |((with_reducible refine yC (fun _=>?_) (fun _=>?_))<;>try omega)
    | ((with_reducible refine fQ ?_);refine gZ _ rfl (by decide+kernel) ?_))
      all_goals first
        |(rw[hbad trivial];done)
        |(rw[hbad (by first|rfl|(rw[if_pos (by omega)]))];done)
        |exact⟨_,rfl,_,by rw[nI];omega,dr 2 u,rfl,by rw[nI];omega,(hmul 2 (by rw[if_neg (by omega)]) (by decide)).symm,rfl,rfl⟩
        |exact⟨_,rfl,_,by rw[nI];omega,dr 3 u,rfl,by rw[nI];omega,(hmul 3 (by rw[if_neg (by omega)]) (by decide)).symm,rfl,rfl⟩
        |exact⟨_,rfl,_,by rw[nI];omega,dr 4 u,rfl,by rw[nI];omega,(hmul 4 (by rw[if_neg (by omega)]) (by decide)).symm,rfl,rfl⟩
  · repeat' (first
    |simp -implicitDefEqProofs (disch:=first|assumption|omega) only[aA,aC,facts,Nat.reduceAdd,Int.reduceLE, *]
    |((with_reducible refine aF (fun _=>?_) (fun _=>?_))<;>try omega))
    rw[<-hV,qI,dif_pos (by omega)]
end Go.Proofs.Pv
