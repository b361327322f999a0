/-
  Layer 8's check of a score: ratios.
  Conditions: the numbers are machine numbers.
-/
import Derived.Test.YtoaofjhadfihjaaGreatDoorC08a
set_option linter.unusedVariables false
set_option linter.unusedSimpArgs false
set_option maxRecDepth 100000
set_option maxHeartbeats 16000000
namespace Go.Proofs.Pv
open Go Go.Proofs
def I64 (n:Int):Prop:= -9223372036854775808<=n/\n<=9223372036854775807
theorem wrap_u64 (n:Int) (h:0<=n/\n<18446744073709551616):IntKind.u64.wrap n=n:=by
 simp only[IntKind.wrap,IntKind.bits,IntKind.signed,Bool.false_and,Bool.false_eq_true,if_false]
 omega
theorem aPs (n:Int) (h:I64 n) (hn:n<0):IntKind.u64.wrap (0 - IntKind.u64.wrap n)=n.natAbs:=by
 unfold I64 at h
 simp only[IntKind.wrap,IntKind.bits,IntKind.signed,Bool.false_and,Bool.false_eq_true,if_false]
 omega
theorem aPt (n:Int) (h:I64 n) (hn:0<=n):IntKind.u64.wrap n=n.natAbs:=by
 unfold I64 at h
 rw[wrap_u64 n (by omega)];omega
theorem Zi (n:Int) (h:I64 n):PC Tryz.prog gl 144 [.int .i64 n] (fun v=>v= .int .u64 n.natAbs):=by
 (refine PC.introY 1 mix (fn:=Tryz.f144) Tryz.func144 rfl (names 144 _ Tryz.func144) fun F hF hro W=>?_;simp only[Tryz.ntmps144,Tryz.results144,aJ,Nat.reduceAdd,Nat.reduceSub])
 repeat' (first
  |simp -implicitDefEqProofs (disch:=first|assumption|omega) only[aA,aC,facts,Nat.reduceAdd, *]
  |((with_reducible refine aF (fun _=>?_) (fun _=>?_))<;>try omega))
 ·rename_i hn
  rw[aPs n h hn]
 ·rename_i hn
  rw[aPt n h (by omega)]
theorem aCl: ∀(b a:Nat),a<18446744073709551616->b<18446744073709551616->PC Tryz.prog gl 145 [.int .u64 a,.int .u64 b] (fun v=>v= .int .u64 (Nat.gcd a b)):=by
 intro b
 induction b using Nat.strongRecOn with
 |_ b ih=>
 intro a ha hb
 by_cases h0:b=0
 ·subst h0
  (refine PC.introY 1 mix (fn:=Tryz.f145) Tryz.func145 rfl (names 145 _ Tryz.func145) fun F hF hro W=>?_;simp only[Tryz.ntmps145,Tryz.results145,aJ,Nat.reduceAdd,Nat.reduceSub])
  repeat' (simp -implicitDefEqProofs (disch:=first|assumption|omega) only[aA,aC,Nat.reduceAdd,Nat.gcd_zero_right, *])
 ·have h1:((b:Int)==0)=false:=by simp;omega
  have h2: ¬(b:Int)=0:=by omega
  have h3:(a:Int).tmod (b:Int)=((a % b:Nat):Int):=by rw[Int.ofNat_tmod]
  have hlt:=Nat.mod_lt a (Nat.pos_of_ne_zero h0)
  (refine PC.introY 1 mix (fn:=Tryz.f145) Tryz.func145 rfl (names 145 _ Tryz.func145) fun F hF hro W=>?_;simp only[Tryz.ntmps145,Tryz.results145,aJ,Nat.reduceAdd,Nat.reduceSub])
  repeat' (first
  |simp -implicitDefEqProofs (disch:=first|assumption|omega) only[aA,aC,Nat.reduceAdd, *]
  |((with_reducible refine dI 145 ?_);refine PC.useY hF (ih (a % b) hlt b hb (by omega)) (rfl) fun v hv=>?_;subst hv))
  rw[Nat.gcd_comm b (a % b),<-Nat.gcd_rec,Nat.gcd_comm]
def rOk (n d:Int):Bool:=decide (1<=d) && (decide (n.natAbs<=1000000000/\d.natAbs<=1000000000) && decide (Nat.gcd n.natAbs d.natAbs=1))
def Ra.right (a:Ra):Bool:=rOk a.num a.den
def Ra.fits (a:Ra):Prop:=I64 a.num/\I64 a.den
theorem max_le {a b:Nat}:((if decide ((a:Int)<b)=true then(b:Int) else a)<=1000000000)↔(a<=1000000000/\b<=1000000000):=by
 by_cases h:(a:Int)<b
 ·simp only[h,decide_true,if_true];omega
 ·simp only[h,decide_false,Bool.false_eq_true,if_false];omega
theorem aS5 {n d:Int}:((Nat.gcd n.natAbs d.natAbs:Int)==1)=decide (Nat.gcd n.natAbs d.natAbs=1):=by
 by_cases h:Nat.gcd n.natAbs d.natAbs=1
 ·simp [h]
 ·have: ¬((Nat.gcd n.natAbs d.natAbs:Nat):Int)=1:=by omega
  simp only[h,decide_false]
  exact beq_false_of_ne this
theorem mG (a:Ra) (h:a.fits):PC Tryz.prog gl 114 [a.av] (fun v=>v= .bool a.right):=by
 obtain⟨hn,hd⟩:=h
 (refine PC.introY 1 mix (fn:=Tryz.f114) Tryz.func114 rfl (names 114 _ Tryz.func114) fun F hF hro W=>?_;simp only[Tryz.ntmps114,Tryz.results114,aJ,Nat.reduceAdd,Nat.reduceSub])
 repeat' (first
  |simp -implicitDefEqProofs (disch:=first|assumption|omega) only[aA,aC,facts,if_pos,Nat.reduceAdd,Nat.reduceLeDiff,Ra.av,max_le,aS5, *]
  |((with_reducible refine jR 144 ?_);refine dK (Zi a.num hn) (rfl) ?_)
  |((with_reducible refine jR 144 ?_);refine dK (Zi a.den hd) (rfl) ?_)
  |((with_reducible refine jR 145 ?_);refine dK (aCl a.den.natAbs a.num.natAbs (by unfold I64 at hn;omega) (by unfold I64 at hd;omega)) (rfl) ?_)
  |((with_reducible refine uV (fun _=>?_) (fun _=>?_))<;>try omega)
  |((with_reducible refine fQ ?_);refine gZ _ rfl (by decide+kernel) ?_))
 all_goals first|grind[Ra.right,rOk]|(simp_all [Ra.right,rOk];done)|(simp [Ra.right,rOk, *];omega)
def pO (a:Ra) (e:Int):AV:= .tup [.agg [.int .i64 a.num,.int .i64 a.den],.int .i64 e]
def Gs (n d:Int):Ra×Int:=
 if d=0 then(⟨0,0⟩,11)
 else if n.natAbs / Nat.gcd n.natAbs d.natAbs<=1000000000/\d.natAbs / Nat.gcd n.natAbs d.natAbs<=1000000000 then
  (⟨if decide (n<0)=decide (d<0) then((n.natAbs / Nat.gcd n.natAbs d.natAbs:Nat):Int) else -((n.natAbs / Nat.gcd n.natAbs d.natAbs:Nat):Int),((d.natAbs / Nat.gcd n.natAbs d.natAbs:Nat):Int)⟩,0)
 else(⟨0,0⟩,10)
theorem aIf {a b:Nat} (ha:a<18446744073709551616):IntKind.u64.wrap ((a:Int).tdiv (b:Nat))=((a / b:Nat):Int):=by
 have:=Nat.div_le_self a b
 rw[show(a:Int).tdiv (b:Nat)=((a / b:Nat):Int) from(Int.ofNat_tdiv _ _).symm]
 generalize a / b=z at*
 exact wrap_u64 _ (by omega)
theorem max_gt {a b:Nat}:((if decide ((a:Int)<b)=true then(b:Int) else a)>1000000000)↔ ¬(a<=1000000000/\b<=1000000000):=by
 rw[<-max_le];omega
theorem Oo (n d:Int) (hn:I64 n) (hd:I64 d):PC Tryz.prog gl 113 [.int .i64 n,.int .i64 d] (fun v=>v=pO (Gs n d).1 (Gs n d).2):=by
 have hn2:n.natAbs<18446744073709551616:=by unfold I64 at hn;omega
 have hd2:d.natAbs<18446744073709551616:=by unfold I64 at hd;omega
 by_cases h0:d=0
 ·subst h0
  (refine PC.introY 1 mix (fn:=Tryz.f113) Tryz.func113 rfl (names 113 _ Tryz.func113) fun F hF hro W=>?_;simp only[Tryz.ntmps113,Tryz.results113,aJ,Nat.reduceAdd,Nat.reduceSub])
  repeat' (simp -implicitDefEqProofs (disch:=first|assumption|omega) only[aA,aC,facts,if_pos,Nat.reduceAdd, *])
  simp [pO,Gs]
 ·have hpos:0<Nat.gcd n.natAbs d.natAbs:=Nat.gcd_pos_of_pos_right _ (by omega)
  have hg0: ¬((Nat.gcd n.natAbs d.natAbs:Nat):Int)=0:=by omega
  have hb:(d==0)=false:=beq_false_of_ne h0
  have u1:=aIf (b:=Nat.gcd n.natAbs d.natAbs) hn2
  have u2:=aIf (b:=Nat.gcd n.natAbs d.natAbs) hd2
  (refine PC.introY 1 mix (fn:=Tryz.f113) Tryz.func113 rfl (names 113 _ Tryz.func113) fun F hF hro W=>?_;simp only[Tryz.ntmps113,Tryz.results113,aJ,Nat.reduceAdd,Nat.reduceSub])
  repeat' (first
  |simp -implicitDefEqProofs (disch:=first|assumption|omega) only[aA,aC,facts,if_pos,Nat.reduceAdd,Nat.reduceLeDiff,max_gt, *]
  |((with_reducible refine aF (fun _=>?_) (fun _=>?_))<;>try omega)
  |((with_reducible refine dS (fun _=>?_) (fun _=>?_))<;>try omega)
  |((with_reducible refine fQ ?_);refine gZ _ rfl (by decide+kernel) ?_)
  |((with_reducible refine dI 144 ?_);refine PC.useY hF (Zi n hn) (rfl) fun v hv=>?_;subst hv)
  |((with_reducible refine dI 144 ?_);refine PC.useY hF (Zi d hd) (rfl) fun v hv=>?_;subst hv)
  |((with_reducible refine dI 145 ?_);refine PC.useY hF (aCl d.natAbs n.natAbs hn2 hd2) (rfl) fun v hv=>?_;subst hv))
  ·rename_i h
   simp [pO,Gs,h0,h]
  ·rename_i h1 h2
   have h1':=Decidable.not_not.1 h1
   have h2':=eq_of_beq h2
   simp only[pO,Gs,h0,if_false,h1',if_true,h2',and_self]
   generalize n.natAbs / Nat.gcd n.natAbs d.natAbs=z at*
   generalize d.natAbs / Nat.gcd n.natAbs d.natAbs=y at*
   rw[show IntKind.i64.wrap (z:Int)=z from wrap_in (by omega),show IntKind.i64.wrap (y:Int)=y from wrap_in (by omega)]
  ·rename_i h1 h2
   have h1':=Decidable.not_not.1 h1
   have h2': ¬decide (n<0)=decide (d<0):=by simpa using h2
   simp only[pO,Gs,h0,if_false,h1',if_true,if_neg h2',and_self]
   generalize n.natAbs / Nat.gcd n.natAbs d.natAbs=z at*
   generalize d.natAbs / Nat.gcd n.natAbs d.natAbs=y at*
   rw[show IntKind.i64.wrap (z:Int)=z from wrap_in (by omega),show IntKind.i64.wrap (y:Int)=y from wrap_in (by omega),show IntKind.i64.wrap (0 - (z:Int))=0 - z from wrap_in (by omega),Int.zero_sub]
theorem Fv {n d:Int} (h:rOk n d=true):1<=d/\d<=1000000000/\ -1000000000<=n/\n<=1000000000:=by
 simp only[rOk,Bool.and_eq_true,decide_eq_true_eq] at h
 omega
theorem yV {a d:Int} (h1: -1000000000<=a) (h2:a<=1000000000) (h3:1<=d) (h4:d<=1000000000): -1000000000000000000<=a*d/\a*d<=1000000000000000000:=by
 constructor
 ·have e1: -1000000000*d<=a*d:=Int.mul_le_mul_of_nonneg_right h1 (by omega)
  omega
 ·have e1:a*d<=1000000000*d:=Int.mul_le_mul_of_nonneg_right h2 (by omega)
  omega
def Ra.cmp (a b:Ra):Int:=if(a.right && b.right)=true then(if a.num*b.den<b.num*a.den then -1 else if a.num*b.den>b.num*a.den then 1 else 0) else 0
theorem Ja (a b:Ra) (ha:a.fits) (hb:b.fits):PC Tryz.prog gl 115 [a.av,b.av] (fun v=>v= .int .i64 (a.cmp b)):=by
 by_cases hr:(a.right && b.right)=true
 ·rw[Bool.and_eq_true] at hr
  have g:=Fv hr.1
  have k:=Fv hr.2
  have m1:=yV g.2.2.1 g.2.2.2 k.1 k.2.1
  have m2:=yV k.2.2.1 k.2.2.2 g.1 g.2.1
  have e1:=hr.1
  have e2:=hr.2
  have w1:IntKind.i64.wrap (a.num*b.den)=a.num*b.den:=wrap_in (by omega)
  have w2:IntKind.i64.wrap (b.num*a.den)=b.num*a.den:=wrap_in (by omega)
  have w3:IntKind.i64.wrap (a.num*b.den - b.num*a.den)=a.num*b.den - b.num*a.den:=wrap_in (by omega)
  (refine PC.introY 1 mix (fn:=Tryz.f115) Tryz.func115 rfl (names 115 _ Tryz.func115) fun F hF hro W=>?_;simp only[Tryz.ntmps115,Tryz.results115,aJ,Nat.reduceAdd,Nat.reduceSub])
  repeat' (first
  |simp -implicitDefEqProofs (disch:=first|assumption|omega) only[aA,aC,facts,if_pos,Nat.reduceAdd,Nat.reduceLeDiff,Int.reduceNeg,Ra.av, *]
  |((with_reducible refine aF (fun _=>?_) (fun _=>?_))<;>try omega)
  |((with_reducible refine dL (fun _=>?_) (fun _=>?_))<;>try omega)
  |((with_reducible refine dI 114 ?_);refine PC.useY hF (mG a ha) (rfl) fun v hv=>?_;subst hv)
  |((with_reducible refine dI 114 ?_);refine PC.useY hF (mG b hb) (rfl) fun v hv=>?_;subst hv))
  ·rename_i h
   have h':=eq_of_beq h
   simp only[Ra.cmp,e1,e2,Bool.and_self,if_true,if_neg (show¬a.num*b.den<b.num*a.den by omega),if_neg (show¬a.num*b.den>b.num*a.den by omega)]
  ·rename_i h1 h2
   simp only[Ra.cmp,e1,e2,Bool.and_self,if_true,if_pos (show a.num*b.den<b.num*a.den by omega)]
  ·rename_i h1 h2
   have h':=ne_of_beq_false h1
   simp only[Ra.cmp,e1,e2,Bool.and_self,if_true,if_neg (show¬a.num*b.den<b.num*a.den by omega),if_pos (show a.num*b.den>b.num*a.den by omega)]
 ·(refine PC.introY 1 mix (fn:=Tryz.f115) Tryz.func115 rfl (names 115 _ Tryz.func115) fun F hF hro W=>?_;simp only[Tryz.ntmps115,Tryz.results115,aJ,Nat.reduceAdd,Nat.reduceSub])
  repeat' (first
  |simp -implicitDefEqProofs (disch:=first|assumption|omega) only[aA,aC,facts,if_pos,Nat.reduceAdd,Nat.reduceLeDiff,Int.reduceNeg,Ra.av, *]
  |((with_reducible refine aF (fun _=>?_) (fun _=>?_))<;>try omega)
  |((with_reducible refine dL (fun _=>?_) (fun _=>?_))<;>try omega)
  |((with_reducible refine jV (fun _=>?_) (fun _=>?_))<;>try omega)
  |((with_reducible refine dI 114 ?_);refine PC.useY hF (mG a ha) (rfl) fun v hv=>?_;subst hv)
  |((with_reducible refine dI 114 ?_);refine PC.useY hF (mG b hb) (rfl) fun v hv=>?_;subst hv))
  all_goals simp_all [Ra.cmp]
def Gt (a b:Ra):Ra×Int:=if(a.right && b.right)=true then Gs (a.num*b.den+b.num*a.den) (a.den*b.den) else(⟨0,0⟩,10)
theorem Oq {n d:Int}:(Gs n d).1.fits:=by
 unfold Gs Ra.fits I64
 generalize n.natAbs / Nat.gcd n.natAbs d.natAbs=z
 generalize d.natAbs / Nat.gcd n.natAbs d.natAbs=y
 split
 ·exact⟨⟨by decide,by decide⟩,⟨by decide,by decide⟩⟩
 ·split
  ·rename_i h
   simp only
   refine⟨?_,?_⟩
   ·split<;>omega
   ·omega
  ·exact⟨⟨by decide,by decide⟩,⟨by decide,by decide⟩⟩
theorem aMl {a b:Ra}:(Gt a b).1.fits:=by
 unfold Gt
 split
 ·exact Oq
 ·exact⟨⟨by decide,by decide⟩,⟨by decide,by decide⟩⟩
theorem aS6 (a b:Ra) (h:(a.right && b.right)=true):PC Tryz.prog gl 163 [a.av,b.av] (fun v=>v= .tup [.int .i64 (a.num*b.den+b.num*a.den),.int .i64 (a.den*b.den)]):=by
 rw[Bool.and_eq_true] at h
 have g:=Fv h.1
 have k:=Fv h.2
 have m1:=yV g.2.2.1 g.2.2.2 k.1 k.2.1
 have m2:=yV k.2.2.1 k.2.2.2 g.1 g.2.1
 have m3:=yV (a:=a.den) (d:=b.den) (by omega) (by omega) k.1 k.2.1
 have w1:IntKind.i64.wrap (a.num*b.den)=a.num*b.den:=wrap_in (by omega)
 have w2:IntKind.i64.wrap (b.num*a.den)=b.num*a.den:=wrap_in (by omega)
 have w3:IntKind.i64.wrap (a.num*b.den+b.num*a.den)=a.num*b.den+b.num*a.den:=wrap_in (by omega)
 have w4:IntKind.i64.wrap (a.den*b.den)=a.den*b.den:=wrap_in (by omega)
 (refine PC.introY 1 mix (fn:=Tryz.f163) Tryz.func163 rfl (names 163 _ Tryz.func163) fun F hF hro W=>?_;simp only[Tryz.ntmps163,Tryz.results163,aJ,Nat.reduceAdd,Nat.reduceSub])
 repeat' (first
  |simp -implicitDefEqProofs (disch:=first|assumption|omega) only[aA,aC,facts,if_pos,Nat.reduceAdd,Nat.reduceLeDiff,Ra.av, *]
  |((with_reducible refine fQ ?_);refine gZ _ rfl (by decide+kernel) ?_))
theorem aS7 (a b:Ra) (ha:a.fits) (hb:b.fits):PC Tryz.prog gl 164 [.agg [.fn 163 [] []],a.av,b.av] (fun v=>v=pO (Gt a b).1 (Gt a b).2):=by
 by_cases hr:(a.right && b.right)=true
 ·have hr':=hr
  rw[Bool.and_eq_true] at hr
  have e1:=hr.1
  have e2:=hr.2
  have g:=Fv hr.1
  have k:=Fv hr.2
  have m1:=yV g.2.2.1 g.2.2.2 k.1 k.2.1
  have m2:=yV k.2.2.1 k.2.2.2 g.1 g.2.1
  have m3:=yV (a:=a.den) (d:=b.den) (by omega) (by omega) k.1 k.2.1
  (refine PC.introY 1 mix (fn:=Tryz.f164) Tryz.func164 rfl (names 164 _ Tryz.func164) fun F hF hro W=>?_;simp only[Tryz.ntmps164,Tryz.results164,aJ,Nat.reduceAdd,Nat.reduceSub])
  repeat' (first
  |simp -implicitDefEqProofs (disch:=first|assumption|omega) only[aA,aC,facts,if_pos,Nat.reduceAdd,Ra.av,pO, *]
  |((with_reducible refine dI 114 ?_);refine PC.useY hF (mG a ha) (rfl) fun v hv=>?_;subst hv)
  |((with_reducible refine dI 114 ?_);refine PC.useY hF (mG b hb) (rfl) fun v hv=>?_;subst hv)
  |((with_reducible refine dI 163 ?_);refine PC.useY hF (aS6 a b hr') (rfl) fun v hv=>?_;subst hv)
  |((with_reducible refine dI 113 ?_);refine PC.useY hF (Oo _ _ (by unfold I64;omega) (by unfold I64;omega)) (rfl) fun v hv=>?_;subst hv))
  simp [Gt,hr']
 ·(refine PC.introY 1 mix (fn:=Tryz.f164) Tryz.func164 rfl (names 164 _ Tryz.func164) fun F hF hro W=>?_;simp only[Tryz.ntmps164,Tryz.results164,aJ,Nat.reduceAdd,Nat.reduceSub])
  repeat' (first
  |simp -implicitDefEqProofs (disch:=first|assumption|omega) only[aA,aC,facts,if_pos,Nat.reduceAdd,Ra.av, *]
  |((with_reducible refine dS (fun _=>?_) (fun _=>?_))<;>try omega)
  |((with_reducible refine jV (fun _=>?_) (fun _=>?_))<;>try omega)
  |((with_reducible refine dI 114 ?_);refine PC.useY hF (mG a ha) (rfl) fun v hv=>?_;subst hv)
  |((with_reducible refine dI 114 ?_);refine PC.useY hF (mG b hb) (rfl) fun v hv=>?_;subst hv))
  all_goals first|(exfalso;simp_all;done)|simp_all [Gt,pO]
theorem Wv (a b:Ra) (ha:a.fits) (hb:b.fits):PC Tryz.prog gl 160 [a.av,b.av] (fun v=>v=pO (Gt a b).1 (Gt a b).2):=by
 (refine PC.introY 2 mix (fn:=Tryz.f160) Tryz.func160 rfl (names 160 _ Tryz.func160) fun F hF hro W=>?_;simp only[Tryz.ntmps160,Tryz.results160,aJ,Nat.reduceAdd,Nat.reduceSub])
 repeat' (first
  |simp -implicitDefEqProofs (disch:=first|assumption|omega) only[aA,aC,facts,if_pos,Nat.reduceAdd,Ra.av,pO, *]
  |((with_reducible refine dI 164 ?_);refine PC.useY hF (aS7 a b ha hb) (rfl) fun v hv=>?_;subst hv))
end Go.Proofs.Pv
