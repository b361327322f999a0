/-
A title goes with each edit in any turn (plain law).
Conditions: none but those that each statement names.
-/
import Derived.Test.YtbeclcideapopaaGreatDoorC14a
import Derived.Test.YtbeclcideapopaaGreatDoorC12
set_option linter.unusedVariables false
set_option linter.unusedSimpArgs false
set_option maxRecDepth 100000
set_option maxHeartbeats 16000000
namespace Go.Proofs.Pv
open Go Go.Proofs
def Sc.tt (s:Sc) (x:ByteArray):Sc:= {s with title:=x}
theorem Qu {s:Sc} {x:ByteArray} (h:nameB s.title=true) (hx:nameB x=true):(s.tt x).checkR=s.checkR:=by
 have hx':nameB (s.tt x).title=true:=hx
 unfold Sc.checkR
 rw[h,hx']
 rfl
theorem Ai {s:Sc} (h:s.checkR.2=0):nameB s.title=true:=by
 unfold Sc.checkR at h
 split at h
 ·exact absurd h (show¬(82:Int)=0 by decide)
 ·split at h
  ·exact absurd h (show¬(80:Int)=0 by decide)
  ·rename_i h2
   simpa using h2
theorem aQ5 {s:Sc} {x:ByteArray} (hx: ¬nameB x=true):(s.tt x).checkR.2≠0:=fun h=>hx (Ai (s:=s.tt x) h)
def Ans.tt (r:Ans) (x:ByteArray):Ans:=(r.1,r.2.1.tt x,r.2.2)
theorem aR9 {s:Sc} {o:aJ} {x:ByteArray}:zT (s.tt x) o=Ans.tt (zT s o) x:=by
 unfold zT
 split<;>split<;>rename_i h1 h2<;>first|rfl|exact absurd h1 h2|exact absurd h2 h1
theorem aSa {s:Sc} {o:aJ} {x:ByteArray}:Cf (s.tt x) o=Ans.tt (Cf s o) x:=by
 unfold Cf
 split<;>split<;>rename_i h1 h2<;>first|rfl|exact absurd h1 h2|exact absurd h2 h1
theorem aO1 {s:Sc} {o:aJ} {x:ByteArray}:yS (s.tt x) o=Ans.tt (yS s o) x:=by
 unfold yS
 split<;>split<;>rename_i h1 h2<;>first|rfl|exact absurd h1 h2|exact absurd h2 h1
theorem aO2 {s:Sc} {o:aJ} {x:ByteArray}:yT (s.tt x) o=Ans.tt (yT s o) x:=by
 unfold yT
 split<;>split<;>rename_i h1 h2<;>first|rfl|exact absurd h1 h2|exact absurd h2 h1
theorem aO3 {s:Sc} {o:aJ} {x:ByteArray}:yU (s.tt x) o=Ans.tt (yU s o) x:=by
 unfold yU
 split<;>split<;>rename_i h1 h2<;>first|rfl|exact absurd h1 h2|exact absurd h2 h1
theorem aO4 {s:Sc} {o:aJ} {x:ByteArray}:xM (s.tt x) o=Ans.tt (xM s o) x:=by
 unfold xM
 split<;>split<;>rename_i h1 h2<;>first|rfl|exact absurd h1 h2|exact absurd h2 h1
theorem aLr {s:Sc} {o:aJ} {x:ByteArray}:uQ (s.tt x) o=Ans.tt (uQ s o) x:=by
 unfold uQ
 split<;>split<;>rename_i h1 h2<;>first|rfl|exact absurd h1 h2|exact absurd h2 h1
theorem aSb {s:Sc} {o:aJ} {x:ByteArray}:Fg (s.tt x) o=Ans.tt (Fg s o) x:=by
 unfold Fg
 by_cases h1:o.upOk s.parts.length=true
 ·rw[if_pos h1,if_pos (show o.upOk (s.tt x).parts.length=true from h1)]
  split<;>rfl
 ·rw[if_neg h1,if_neg (show¬o.upOk (s.tt x).parts.length=true from h1)];rfl
theorem aT7 {s:Sc} {o:aJ} {x:ByteArray} (h9:o.kind≠9):lW (s.tt x) o=Ans.tt (lW s o) x:=by
 unfold lW
 rw[aR9,aSa,aO1,aO2,aO3,aO4,aLr,aSb,if_neg h9,if_neg h9]
 repeat' split
 all_goals rfl
theorem aLs {s:Sc} {o:aJ} (h9:o.kind≠9):(lW s o).2.1.title=s.title:=by
 unfold lW zT Cf yS yT yU xM uQ Fg
 rw[if_neg h9]
 repeat' split
 all_goals rfl
def nH (x:ByteArray):aJ:=⟨9,0,0,0,0,0,[],[],[],[],0,0,x⟩
theorem Dx {s:Sc} {x:ByteArray} (hc:s.checkR.2=0):dD s (nH x)=if nameB x=true then(0,s.tt x,Ap s) else((s.tt x).checkR.2,s.tt x,Ap s):=by
 have hd:lW s (nH x)=(0,s.tt x,Ap s):=by simp [lW,nH,Rq,Sc.tt]
 rw[dD,if_pos hc,hd,if_pos rfl]
 split
 ·rename_i h
  have:=Qu (s:=s) (Ai hc) h
  simp only[this,hc]
 ·rfl
theorem run2 {s:Sc} {a b:aJ} (hc:s.checkR.2=0):kG s [a,b]=if(dD s a).1=0 then(if(dD (dD s a).2.1 b).1=0 then(0,(dD (dD s a).2.1 b).2.1,[(dD s a).2.2,(dD (dD s a).2.1 b).2.2],2) else((dD (dD s a).2.1 b).1,zeroS,[],1)) else((dD s a).1,zeroS,[],0):=by
 rw[kG,if_pos hc]
 rfl
theorem Vl {s:Sc} {o:aJ} (h:(dD s o).1=0):s.checkR.2=0/\(dD s o).2.1.checkR.2=0:=by
 rw[dD] at h ⊢
 split at h
 ·rename_i h1
  rw[if_pos h1]
  split at h
  ·rename_i h2
   rw[if_pos h2]
   exact⟨h1,h⟩
  ·rename_i h2;exact absurd h h2
 ·rename_i h1;exact absurd h h1
theorem aI6 (s:Sc) (o:aJ) (x:ByteArray) (h9:o.kind≠9):
  ((kG s [o,nH x]).1=0/\(kG s [nH x,o]).1=0/\(kG s [o,nH x]).2.1=(kG s [nH x,o]).2.1/\(kG s [o,nH x]).2.1.title=x)\/
  ((kG s [o,nH x]).1≠0/\(kG s [nH x,o]).1≠0/\(kG s [o,nH x]).2.2.2<2/\(kG s [nH x,o]).2.2.2<2):=by
 by_cases hc:s.checkR.2=0
 rotate_left
 ·have e1: ∀l,kG s l=(s.checkR.2,zeroS,[],0):=fun l=>by rw[kG,if_neg hc]
  rw[e1,e1]
  exact .inr ⟨hc,hc,(show 0<2 by decide),(show 0<2 by decide)⟩
 rw[run2 hc,run2 hc]
 by_cases hx:nameB x=true
 rotate_left
 ·-- the title fails
  have hb:dD s (nH x)=((s.tt x).checkR.2,s.tt x,Ap s):=by rw[Dx hc,if_neg hx]
  have hb1: ¬(dD s (nH x)).1=0:=by rw[hb];exact aQ5 hx
  right
  rw[if_neg hb1]
  by_cases ha:(dD s o).1=0
  ·have ht:(dD s o).2.1.checkR.2=0:=(Vl ha).2
   have hb2: ¬(dD (dD s o).2.1 (nH x)).1=0:=by rw[Dx ht,if_neg hx];exact aQ5 hx
   rw[if_pos ha,if_neg hb2]
   exact⟨hb2,hb1,(show 1<2 by decide),(show 0<2 by decide)⟩
  ·rw[if_neg ha]
   exact⟨ha,hb1,(show 0<2 by decide),(show 0<2 by decide)⟩
 have hb:dD s (nH x)=(0,s.tt x,Ap s):=by rw[Dx hc,if_pos hx]
 have hc2:(s.tt x).checkR.2=0:=by rw[Qu (Ai hc) hx];exact hc
 have hn:nameB (lW s o).2.1.title=true:=by rw[aLs h9];exact Ai hc
 have hto:dD (s.tt x) o=Ans.tt (dD s o) x:=by
  rw[dD,dD,if_pos hc2,if_pos hc,aT7 h9]
  by_cases h:(lW s o).1=0
  ·rw[if_pos h,if_pos (show(Ans.tt (lW s o) x).1=0 from h)]
   show((((lW s o).2.1.tt x).checkR.2,(Ans.tt (lW s o) x).2):Ans)=_
   rw[Qu hn hx];rfl
  ·rw[if_neg h,if_neg (show¬(Ans.tt (lW s o) x).1=0 from h)]
 rw[hb]
 simp only[eq_self,if_true,hto]
 by_cases ha:(dD s o).1=0
 ·have ht:(dD s o).2.1.checkR.2=0:=(Vl ha).2
  have hb2:dD (dD s o).2.1 (nH x)=(0,(dD s o).2.1.tt x,Ap (dD s o).2.1):=by rw[Dx ht,if_pos hx]
  rw[if_pos ha,hb2]
  left
  have ha2:(Ans.tt (dD s o) x).1=0:=ha
  simp only[ha2,if_true]
  exact⟨trivial,trivial,rfl,rfl⟩
 ·right
  have ha2: ¬(Ans.tt (dD s o) x).1=0:=ha
  rw[if_neg ha]
  simp only[ha2,if_false]
  exact⟨ha,ha,(show 0<2 by decide),(show 1<2 by decide)⟩
theorem aOu (s:Sc) (o:aJ) (x:ByteArray) (hup:PC Tryz.prog gl 4 [] (fun v=>v= .bool true)) (h: ¬(s.fewB=true/\o.fewB=true/\(x.size:Int)<=100/\o.kind≠9)):PC Tryz.prog gl 3 [s.av,o.av,.str x] (fun v=>v= .bool true):=by
 (refine PC.introZ 2 mix (fn:=Tryz.f3) Tryz.func3 rfl (names 3 _ Tryz.func3) fun F hF hro W=>?_;simp only[Tryz.ntmps3,Tryz.results3,aI,Nat.reduceAdd,Nat.reduceSub])
 repeat' (first
  |simp -implicitDefEqProofs only[↓reduceIte,aA,aC,facts,Nat.reduceAdd,Nat.reduceEqDiff,Nat.reduceLT,Nat.reduceLeDiff,Nat.reduceMul,Sc.av,aJ.av, *]
  |((with_reducible refine dK (fun _=>?_) (fun _=>?_))<;>try omega)
  |((with_reducible refine iD (fun _=>?_) (fun _=>?_))<;>try omega)
  |((with_reducible refine jO (fun _=>?_) (fun _=>?_))<;>try omega)
  |((with_reducible refine aS 4 ?_);refine PC.useZ hF hup (rfl) fun v hv=>?_;subst hv)
  |((with_reducible refine aS 5 ?_);refine PC.useZ hF (aEu s) (rfl) fun v hv=>?_;subst hv)
  |((with_reducible refine aS 6 ?_);refine PC.useZ hF (Xa o) (rfl) fun v hv=>?_;subst hv))
 all_goals (exfalso;exact h ⟨by simp_all,by simp_all,by omega,by simp_all⟩)
theorem aOv (s:Sc) (o:aJ) (x:ByteArray) (hup:PC Tryz.prog gl 4 [] (fun v=>v= .bool true)) (h1:s.fewB=true) (h2:o.fewB=true) (hx:(x.size:Int)<=100) (h9:o.kind≠9) (r1 r2:RunA) (hr1:PC Tryz.prog gl 7 [s.av,Jn [o,nH x]] (fun v=>v=Bl r1)) (hr2:PC Tryz.prog gl 7 [s.av,Jn [nH x,o]] (fun v=>v=Bl r2))
  (hsame:PC Tryz.prog gl 8 [r1.2.1.av,r1.2.1.av] (fun v=>v= .bool true))
  (h:(r1.1=0/\r2.1=0/\r1.2.1=r2.2.1/\r1.2.1.title=x)\/(r1.1≠0/\r2.1≠0/\r1.2.2.2<2/\r2.2.2.2<2)):PC Tryz.prog gl 3 [s.av,o.av,.str x] (fun v=>v= .bool true):=by
 obtain⟨e1,t1,b1,n1⟩:=r1
 obtain⟨e2,t2,b2,n2⟩:=r2
 simp only[Bl] at*
 have hk:(o.kind==9)=false:=by simpa using h9
 have hx2: ¬(100:Int)< (x.size:Int):=by omega
 rcases h with⟨q1,q2,q3,q4⟩|⟨q1,q2,q3,q4⟩
 ·subst q1;subst q2;subst q3;subst q4
  unfold Jn at hr1 hr2
  (refine PC.introZ 2 mix (fn:=Tryz.f3) Tryz.func3 rfl (names 3 _ Tryz.func3) fun F hF hro W=>?_;simp only[Tryz.ntmps3,Tryz.results3,aI,Nat.reduceAdd,Nat.reduceSub])
  repeat' (first
  |simp -implicitDefEqProofs only[↓reduceIte,aA,aC,facts,Nat.reduceAdd,Nat.reduceEqDiff,Nat.reduceLT,Nat.reduceLeDiff,Nat.reduceMul,Int.reduceBNe,Sc.av,aJ.av, *]
  |((with_reducible refine aS 4 ?_);refine PC.useZ hF hup (rfl) fun v hv=>?_;subst hv)
  |((with_reducible refine aS 5 ?_);refine PC.useZ hF (aEu s) (rfl) fun v hv=>?_;subst hv)
  |((with_reducible refine aS 6 ?_);refine PC.useZ hF (Xa o) (rfl) fun v hv=>?_;subst hv)
  |((with_reducible refine aS 7 ?_);refine PC.useZ hF hr1 (rfl) fun v hv=>?_;subst hv)
  |((with_reducible refine aS 7 ?_);refine PC.useZ hF hr2 (rfl) fun v hv=>?_;subst hv)
  |((with_reducible refine aS 8 ?_);refine PC.useZ hF hsame (rfl) fun v hv=>?_;subst hv))
 ·have k1:(n1:Int)<2:=by omega
  have k2:(n2:Int)<2:=by omega
  have k3:(e1 !=0)=true:=by simpa using q1
  have k4:(e1==0)=false:=by simpa using q1
  have k5:(e2==0)=false:=by simpa using q2
  clear q1 q2 q3 q4
  unfold Jn at hr1 hr2
  (refine PC.introZ 2 mix (fn:=Tryz.f3) Tryz.func3 rfl (names 3 _ Tryz.func3) fun F hF hro W=>?_;simp only[Tryz.ntmps3,Tryz.results3,aI,Nat.reduceAdd,Nat.reduceSub])
  repeat' (first
  |simp -implicitDefEqProofs only[↓reduceIte,aA,aC,facts,Nat.reduceAdd,Nat.reduceEqDiff,Nat.reduceLT,Nat.reduceLeDiff,Nat.reduceMul,Sc.av,aJ.av, *]
  |((with_reducible refine aS 4 ?_);refine PC.useZ hF hup (rfl) fun v hv=>?_;subst hv)
  |((with_reducible refine aS 5 ?_);refine PC.useZ hF (aEu s) (rfl) fun v hv=>?_;subst hv)
  |((with_reducible refine aS 6 ?_);refine PC.useZ hF (Xa o) (rfl) fun v hv=>?_;subst hv)
  |((with_reducible refine aS 7 ?_);refine PC.useZ hF hr1 (rfl) fun v hv=>?_;subst hv)
  |((with_reducible refine aS 7 ?_);refine PC.useZ hF hr2 (rfl) fun v hv=>?_;subst hv))
theorem aLc (x:ByteArray):(nH x).fine:=sD kK kK kK kK qF qF
theorem aOt (s:Sc) (o:aJ) (x:ByteArray) (hup:PC Tryz.prog gl 4 [] (fun v=>v= .bool true)) (ts:s.typed) (to:o.typed) (tb:o.typedB):PC Tryz.prog gl 3 [s.av,o.av,.str x] (fun v=>v= .bool true):=by
 by_cases hf:s.fewB=true/\o.fewB=true/\(x.size:Int)<=100/\o.kind≠9
 rotate_left
 ·exact aOu s o x hup hf
 obtain⟨h1,h2,h3,h4⟩:=hf
 have hs:=Xw ts h1
 have ho:=aTx to tb h2
 have hn:=aLc x
 have l1: ∀y∈[o,nH x],y.fine:=fun y hy=>by
  simp only[List.mem_cons,List.not_mem_nil,or_false] at hy
  rcases hy with rfl|rfl
  ·exact ho
  ·exact hn
 have l2: ∀y∈[nH x,o],y.fine:=fun y hy=>by
  simp only[List.mem_cons,List.not_mem_nil,or_false] at hy
  rcases hy with rfl|rfl
  ·exact hn
  ·exact ho
 exact aOv s o x hup h1 h2 h3 h4 _ _ (aBb s _ hs l1 (show 2<=1000000 by decide)) (aBb s _ hs l2 (show 2<=1000000 by decide)) (aIu s _ hs l1).same (aI6 s o x h4)
end Go.Proofs.Pv
