/-
  Layer 8's check of a score: lengths, keys, meters.
  Conditions: the numbers are machine numbers.
-/
import Derived.Test.YtlcnbhiklpfpjaaGreatDoorC08r
import Derived.Test.YtlcnbhiklpfpjaaGreatDoorC08s
set_option linter.unusedVariables false
set_option linter.unusedSimpArgs false
set_option maxRecDepth 100000
set_option maxHeartbeats 16000000
namespace Go.Proofs.Pv
open Go Go.Proofs
def Ke.right (k:Ke):Bool:=decide (-7<=k.fifths/\k.fifths<=7)
theorem Bi (k:Ke):PC Tryz.prog gl 73 [k.av] (fun v=>v= .bool k.right):=by
 (refine PC.introY 1 mix (fn:=Tryz.f73) Tryz.func73 rfl (names 73 _ Tryz.func73) fun F hF hro W=>?_;simp only[Tryz.ntmps73,Tryz.results73,aJ,Nat.reduceAdd,Nat.reduceSub])
 repeat' (first
  |simp -implicitDefEqProofs (disch:=first|assumption|omega) only[aA,aC,facts,if_pos,Nat.reduceAdd,Nat.reduceLeDiff,Int.reduceNeg,Ke.av, *]
  |((with_reducible refine jE (fun _=>?_) (fun _=>?_))<;>try omega))
 all_goals first|grind[Ke.right]|(simp_all [Ke.right];done)|(simp [Ke.right, *];omega)
def aEx (d:Int):Int:=if d=0 then 1 else if d=1 then 3 else 7
def aEy (d:Int):Int:=if d=0 then 1 else if d=1 then 2 else 4
def Va.lenR (v:Va):Ra×Int:=
 if v.right=true then(if v.num>0 then Gy (aEx v.dots*v.den) (aEy v.dots*2 ^ v.base.toNat*v.num) else Gy (aEx v.dots) (aEy v.dots*2 ^ v.base.toNat)) else(⟨0,0⟩,40)
theorem minB:(min 0 IntKind.i64.bits=0/\min 1 IntKind.i64.bits=1/\min 2 IntKind.i64.bits=2/\min 3 IntKind.i64.bits=3)/\min 4 IntKind.i64.bits=4/\min 5 IntKind.i64.bits=5/\min 6 IntKind.i64.bits=6:=by decide
theorem aBe (v:Va):PC Tryz.prog gl 162 [v.av] (fun w=>w=pU v.lenR.1 v.lenR.2):=by
 by_cases hr:v.right=true
 ·have hr':=hr
  simp only[Va.right,Bool.and_eq_true,Bool.or_eq_true,decide_eq_true_eq] at hr
  obtain⟨⟨h1,h2,h3,h4⟩,h5⟩:=hr
  obtain⟨b,d,n,m⟩:=v
  simp only at h1 h2 h3 h4 h5
  have hd:d=0\/d=1\/d=2:=by omega
  have hb:b=0\/b=1\/b=2\/b=3\/b=4\/b=5\/b=6:=by omega
  have hv:(Va.mk b d n m).right=true:=hr'
  rcases hd with rfl|rfl|rfl<;>rcases hb with rfl|rfl|rfl|rfl|rfl|rfl|rfl
  all_goals
   (refine PC.introY 1 mix (fn:=Tryz.f162) Tryz.func162 rfl (names 162 _ Tryz.func162) fun F hF hro W=>?_;simp only[Tryz.ntmps162,Tryz.results162,aJ,Nat.reduceAdd,Nat.reduceSub])
   repeat' (first
  |simp -implicitDefEqProofs (disch:=first|assumption|omega) only[aA,aC,facts,if_pos,Nat.reduceAdd,Nat.reduceLeDiff,Nat.reduceMul,Int.reduceLT,Int.reduceToNat,Int.reduceMul,Va.av,pU,wrap_in,minB,Int.reducePow, *]
  |((with_reducible refine aF (fun _=>?_) (fun _=>?_))<;>try omega)
  |((with_reducible refine fQ ?_);refine gZ _ rfl (by decide+kernel) ?_)
  |((with_reducible refine dI 103 ?_);refine PC.useY hF (En ⟨_,_,n,m⟩) (rfl) fun v hv=>?_;subst hv)
  |((with_reducible refine dI 113 ?_);refine PC.useY hF (Ou _ _ (by unfold I64;omega) (by unfold I64;omega)) (rfl) fun v hv=>?_;subst hv))
  all_goals
   rename_i hh
   simp only[Va.lenR,hv,if_true,hh,if_false,gt_iff_lt]
   simp [aEx,aEy]
 ·(refine PC.introY 1 mix (fn:=Tryz.f162) Tryz.func162 rfl (names 162 _ Tryz.func162) fun F hF hro W=>?_;simp only[Tryz.ntmps162,Tryz.results162,aJ,Nat.reduceAdd,Nat.reduceSub])
  repeat' (first
  |simp -implicitDefEqProofs (disch:=first|assumption|omega) only[aA,aC,facts,if_pos,Nat.reduceAdd,Va.av, *]
  |((with_reducible refine dI 103 ?_);refine PC.useY hF (En _) (rfl) fun v hv=>?_;subst hv))
  simp_all [Va.lenR,pU]
theorem aMd {v:Va}:v.lenR.1.fits:=by
 unfold Va.lenR
 split
 ·split
  ·exact Ov
  ·exact Ov
 ·exact⟨⟨by decide,by decide⟩,⟨by decide,by decide⟩⟩
def Ev.lenR (e:Ev):Ra×Int:=if e.right=true then e.value.lenR else(⟨0,0⟩,60)
theorem La (e:Ev) (hs:e.small):PC Tryz.prog gl 159 [e.av] (fun w=>w=pU e.lenR.1 e.lenR.2):=by
 (refine PC.introY 1 mix (fn:=Tryz.f159) Tryz.func159 rfl (names 159 _ Tryz.func159) fun F hF hro W=>?_;simp only[Tryz.ntmps159,Tryz.results159,aJ,Nat.reduceAdd,Nat.reduceSub])
 repeat' (first
  |simp -implicitDefEqProofs (disch:=first|assumption|omega) only[aA,aC,facts,if_pos,Nat.reduceAdd,Nat.reduceEqDiff,Nat.reduceLeDiff,Ev.av,pU, *]
  |((with_reducible refine dR (fun _=>?_) (fun _=>?_))<;>try omega)
  |((with_reducible refine dI 69 ?_);refine PC.useY hF (vP e hs) (rfl) fun v hv=>?_;subst hv)
  |((with_reducible refine dI 162 ?_);refine PC.useY hF (aBe e.value) (rfl) fun v hv=>?_;subst hv))
 all_goals simp_all [Ev.lenR,pU]
def pow2 (d:Int):Bool:=decide (d=1\/d=2\/d=4\/d=8\/d=16\/d=32\/d=64)
theorem aPu {d:Int} (h1: ¬d<1) (h2: ¬d>64):(IntKind.i64.wrap ((BitVec.ofInt IntKind.i64.bits d &&& BitVec.ofInt IntKind.i64.bits (d - 1)).toNat) !=0)=!pow2 d:=by
 have key: ∀n:Fin 65,n.val=0\/(IntKind.i64.wrap ((BitVec.ofInt IntKind.i64.bits (n.val:Int) &&& BitVec.ofInt IntKind.i64.bits ((n.val:Int) - 1)).toNat) !=0)=!pow2 n.val:=by decide+kernel
 have:=key ⟨d.toNat,by omega⟩
 simp only[show((d.toNat:Nat):Int)=d by omega] at this
 rcases this with h|h
 ·omega
 ·exact h
def sZ (l:List Int) (i:Nat):Int:=(l.take i).sum
theorem aS3 {n:Nat}:((n:Int)==0)=decide (n=0):=by by_cases h:n=0<;>simp [h]
def Me.grp (m:Me):Bool:=Dz m.groups.length (fun i=>decide (1<=m.groups.getD i 0/\m.groups.getD i 0<=m.num - sZ m.groups i))
def Me.right (m:Me):Bool:=decide (1<=m.num/\m.num<=32/\1<=m.den/\m.den<=64) && (pow2 m.den && (m.grp && (decide (m.num - sZ m.groups m.groups.length=0)||decide (m.groups.length=0))))
theorem aD2 (m:Me) (hl:m.groups.length<=1000000):PC Tryz.prog gl 112 [m.av] (fun v=>v= .bool m.right):=by
 (refine PC.introY 2 mix (fn:=Tryz.f112) Tryz.func112 rfl (names 112 _ Tryz.func112) fun F hF hro W=>?_;simp only[Tryz.ntmps112,Tryz.results112,aJ,Nat.reduceAdd,Nat.reduceSub])
 repeat' (first
  |simp -implicitDefEqProofs (disch:=first|assumption|omega) only[aA,aC,facts,if_pos,Nat.reduceAdd,Nat.reduceLeDiff,Me.av,wrap_in,aPu, *]
  |((with_reducible refine dR (fun _=>?_) (fun _=>?_))<;>try omega)
  |((with_reducible refine iH (fun _=>?_) (fun _=>?_))<;>try omega))
 all_goals try first|(simp_all [Me.right];done)|(simp_all [Me.right];omega)|grind[Me.right]
 have hb:0<=m.num - sZ m.groups 0/\m.num - sZ m.groups 0<=32:=by simp [sZ];omega
 refine kL (fD 61 [1,3,36,37,38]) [] 200 m.groups.length (fun i (_:Unit)=>⟨[.ud,.ptr 0 0,.ud,.int .i64 (m.num - sZ m.groups i),.ud,.ud,.ud,.ud,.ud,.ud,.ud,.ud,.ud,.ud,.ud,.ud,.ud,.ud,.ud,.ud,.ud,.ud,.ud,.ud,.ud,.ud,.ud,.ud,.ud,.ud,.ud,.ud,.ud,.ud,.ud,.ud,.sl 1 (m.groups.map (AV.int .i64)) .none,.int .i64 (m.groups.length:Nat),.int .i64 (i:Nat),.ud,.ud,.ud,.ud,.ud,.ud,.ud,.ud,.ud,.ud,.ud,.ud,.ud,.ud,.ud,.ud,.ud,.ud,.ud,.ud,.ud,.ud],[]⟩) (fun _ _=>⟨[(0,.cells [.int .i64 m.num,.int .i64 m.den,.sl 1 (m.groups.map (AV.int .i64)) .none])],200⟩)
  (fun i _=>(∀j,j<i->decide (1<=m.groups.getD j 0/\m.groups.getD j 0<=m.num - sZ m.groups j)=true)/\0<=m.num - sZ m.groups i/\m.num - sZ m.groups i<=32) () ⟨oO,hb⟩ rfl (by simp only[sZ,List.take_zero,List.sum_nil,Int.sub_zero];rfl) ?_
 rintro i ⟨⟩ hi ⟨hQ,hb1,hb2⟩
 have hgd: ∀(h:i<m.groups.length),m.groups.getD i 0=m.groups[i]:=fun h=>by simp [h]
 have hgs: ∀(h:i<m.groups.length),sZ m.groups (i+1)=sZ m.groups i+m.groups[i]:=fun h=>by
  simp only[sZ]
  rw[List.take_add_one,List.getElem?_eq_getElem h,Option.toList_some,List.sum_append,List.sum_cons,List.sum_nil,Int.add_zero]
 repeat' (first
  |simp -implicitDefEqProofs (disch:=first|assumption|omega) only[aA,aC,facts,if_pos,Nat.reduceAdd,Nat.reduceLeDiff,wrap_in,List.getElem?_eq_getElem,aS3, *]
  |((with_reducible refine aF (fun _=>?_) (fun _=>?_))<;>try omega)
  |((with_reducible refine iH (fun _=>?_) (fun _=>?_))<;>try omega)
  |((with_reducible refine jW (fun _=>?_) (fun _=>?_))<;>try omega))
 ·rename_i h1 h2
  have:m.grp=false:=pV (i:=i) (by omega) (by rw[hgd (by omega)];simp;omega)
  simp [Me.right,this]
 ·rename_i h1 h2 h3
  have:m.grp=false:=pV (i:=i) (by omega) (by rw[hgd (by omega)];simp;omega)
  simp [Me.right,this]
 ·rename_i h1 h2 h3
  have e:=hgs (by omega)
  have e2:=hgd (by omega)
  exact fJ () (by omega) ⟨lX hQ (decide_eq_true (by rw[e2];omega)),by omega,by omega⟩ rfl (by rw[e,<-Int.sub_sub];rfl)
 ·rename_i h1 h2
  have hi':i=m.groups.length:=by omega
  subst hi'
  have:m.grp=true:=Cj hQ
  have hd:decide (1<=m.num/\m.num<=32/\1<=m.den/\m.den<=64)=true:=decide_eq_true (by omega)
  simp_all [Me.right]
 ·rename_i h1 h2
  have hi':i=m.groups.length:=by omega
  subst hi'
  have:m.grp=true:=Cj hQ
  have hd:decide (1<=m.num/\m.num<=32/\1<=m.den/\m.den<=64)=true:=decide_eq_true (by omega)
  simp_all [Me.right]
def Me.lenR (m:Me):Ra×Int:=if m.right=true then Gy m.num m.den else(⟨0,0⟩,50)
theorem Wv {m:Me}:m.lenR.1.fits:=by
 unfold Me.lenR
 split
 ·exact Ov
 ·exact⟨⟨by decide,by decide⟩,⟨by decide,by decide⟩⟩
theorem Lc (m:Me) (hl:m.groups.length<=1000000) (hn:I64 m.num) (hd:I64 m.den):PC Tryz.prog gl 70 [m.av] (fun v=>v=pU m.lenR.1 m.lenR.2):=by
 (refine PC.introY 1 mix (fn:=Tryz.f70) Tryz.func70 rfl (names 70 _ Tryz.func70) fun F hF hro W=>?_;simp only[Tryz.ntmps70,Tryz.results70,aJ,Nat.reduceAdd,Nat.reduceSub])
 repeat' (first
  |simp -implicitDefEqProofs (disch:=first|assumption|omega) only[aA,aC,facts,if_pos,Nat.reduceAdd,Nat.reduceLeDiff,Me.av,pU, *]
  |((with_reducible refine dR (fun _=>?_) (fun _=>?_))<;>try omega)
  |((with_reducible refine dI 112 ?_);refine PC.useY hF (aD2 m hl) (rfl) fun v hv=>?_;subst hv)
  |((with_reducible refine dI 113 ?_);refine PC.useY hF (Ou m.num m.den hn hd) (rfl) fun v hv=>?_;subst hv))
 all_goals simp_all [Me.lenR,pU]
end Go.Proofs.Pv
