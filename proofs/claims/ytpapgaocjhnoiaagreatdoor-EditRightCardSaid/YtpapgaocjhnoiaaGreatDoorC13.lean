/-
  EditRight: the law answers true for all scores and edits.
  What an edit leaves is a score, and an edit, as Go's values are.
  EditRight: the law answers true for all scores and edits.
  Conditions: none but those that each statement names.
-/
import Derived.Test.YtpapgaocjhnoiaaGreatDoorC12
set_option linter.unusedVariables false
set_option linter.unusedSimpArgs false
namespace Go.Proofs.Pv
open Go Go.Proofs
set_option maxRecDepth 100000
set_option maxHeartbeats 8000000
def zeroS:Sc:=⟨⟨#[]⟩,[],[]⟩
theorem aGv:zeroS.small:=⟨(fun _ h=>nomatch h),(fun _ h=>nomatch h),(show 0≤1000000 by decide),(show 0≤1000000 by decide)⟩
theorem aOy (s:Sc) (o:aK) (hs:s.fine) (ho:o.fine):((gY s o).1≠0∧(s.checkR.2=0∨(gY s o).1=s.checkR.2)∧rJ (gY s o)=errR (gY s o).1)∨((gY s o).1=0∧s.checkR.2=0∧(gY s o).2.1.checkR.2=0∧rJ (gY s o)= .tup [(gY s o).2.1.av,(gY s o).2.2.av,.int .i64 0]):=by
 by_cases he:(gY s o).1=0
 ·refine .inr ⟨he,?_⟩
  rw[rJ,if_pos he]
  rw[gY] at he ⊢
  split at he
  ·rename_i h1
   rw[if_pos h1]
   split at he
   ·rename_i h2
    rw[if_pos h2]
    exact⟨h1,he,rfl⟩
   ·rename_i h2;exact absurd he h2
  ·rename_i h1;exact absurd he h1
 ·refine .inl ⟨he,?_,by rw[rJ,if_neg he]⟩
  by_cases h1:s.checkR.2=0
  ·exact .inl h1
  ·exact .inr (by rw[gY,if_neg h1];rfl)
end Go.Proofs.Pv
namespace Go.Proofs.Pv
open Go Go.Proofs
set_option maxRecDepth 100000
structure zZ (r:Ans):Prop where
 s:r.2.1.fine
 o:r.2.2.fine
theorem yB {n:Nat} (h:n≤1000000):I64 ((n:Nat):Int):=by unfold I64;omega
theorem vC {k p b v a c st ha:Int} {ev:List Ev} {ba:List Ba} {ce:List (List (List Vo))} {dy:List (List (List Dy))} {t:ByteArray} (h1:(∀e∈ev,e.small)∧ev.length≤400000) (h2:(∀x∈ba,x.short∧x.ok)∧ba.length≤400000)
  (h3:(∀l∈ce,l.length≤400000∧ ∀c∈l,c.length≤1000000∧ ∀v∈c,v.small)∧ce.length≤1000000) (h4:(∀l∈dy,l.length≤400000∧ ∀d∈l,d.length≤1000000∧ ∀t∈d,t.at_.fits)∧dy.length≤1000000) (h5:I64 a) (h6:I64 b):(⟨k,p,b,v,a,c,ev,ba,ce,dy,st,ha,t⟩:aK).fine:=
 ⟨h1.1,h1.2,h2.1,h2.2,h3.1,h3.2,h4.1,h4.2,h5,h6⟩
theorem kY {α:Type} {p:α→Prop} {n:Nat}:(∀x∈([]:List α),p x)∧([]:List α).length≤n:=⟨(fun _ h=>nomatch h),Nat.zero_le _⟩
theorem aJb {α:Type} {p:α→Prop} {x:α} {n:Nat} (h:p x) (hn:1≤n):(∀y∈[x],p y)∧[x].length≤n:=⟨(fun y hy=>by simp only[List.mem_singleton] at hy;subst hy;exact h),hn⟩
theorem Jm {α:Type} {l:List α} {i:Nat} {x y:α} (h:y∈l.set i x):y∈l∨y=x:=List.mem_or_eq_of_mem_set h
section
variable {s:Sc} {o:aK} (hs:s.fine) (ho:o.fine) (hr:Right s)
include hs hr
omit hr in
omit hr in
theorem Hu {j:Nat} {p:Pa} (h:p.small):({s with parts:=s.parts.set j p}:Sc).fine:=⟨Jc hs.sm h,hs.sh⟩
omit hr in
theorem Dk {j:Nat} (hj:j<s.parts.length):(s.parts.getD j pa0).small:=hs.sm.parts _ (getD_mem hj)
theorem Yb {j b:Nat} (hj:j<s.parts.length) (hb:b<s.bars.length): ∀v∈(s.parts.getD j pa0).cells.getD b [],v.small:=by
 have hm:=getD_mem (d:=pa0) hj
 have:=(hr.len _ hm).1
 exact((hs.sm.parts _ hm).voices _ (getD_mem (by omega))).2
theorem aEh {j b:Nat} (hj:j<s.parts.length) (hb:b<s.bars.length):((s.parts.getD j pa0).cells.getD b []).length≤4:=by
 have _:=hs
 have hm:=getD_mem (d:=pa0) hj
 have:=(hr.len _ hm).1
 exact(hr.cell _ hm _ (getD_mem (by omega))).2
include ho
theorem fine1 (h:(Lr s o).1=0):zZ (Lr s o):=by
 unfold Lr at h ⊢
 split
 ·rename_i h1
  obtain⟨⟨⟨p0,p1⟩,b0,b1⟩,⟨v0,v1⟩,h3⟩:=h1
  have hj:o.j<s.parts.length:=by simp only[aK.j];omega
  have hb:o.b<s.bars.length:=by simp only[aK.b];omega
  have hv0:o.v< (o.cell s).length:=by simp only[aK.v];omega
  have hm:=getD_mem (d:=pa0) hj
  have hcl:=(hr.len _ hm).1
  have hbc:o.b< (s.parts.getD o.j pa0).cells.length:=by omega
  have hcm:o.cell s∈(s.parts.getD o.j pa0).cells:=getD_mem hbc
  have hvm:(o.cell s).getD o.v ⟨[]⟩∈o.cell s:=getD_mem hv0
  have hvl:(o.vo s).length≤64:=(hr.vo _ hm _ hcm _ hvm).2
  have hvs:Vo.small ((o.cell s).getD o.v ⟨[]⟩):=((hs.sm.parts _ hm).voices _ hcm).2 _ hvm
  have hes: ∀e∈o.vo s,e.small:=hvs.2
  have hel:=ho.evl
  have hb1:=hr.b1
  refine⟨⟨aCy hs.sm hj hbc hv0 ⟨?_,fun e he=>?_⟩,hs.sh⟩,vC ⟨fun e he=>hes e (List.mem_of_mem_drop (List.mem_of_mem_take he)),?_⟩ kY kY kY (yB (by simp only[aK.a];omega)) (yB (by omega))⟩
  ·show(jE (o.vo s) o.a o.n o.events).length≤1000000
   simp only[jE,List.length_append,List.length_take,List.length_drop];omega
  ·have he:e∈jE (o.vo s) o.a o.n o.events:=he
   rcases aPb he with h|h
   ·exact hes e h
   ·exact ho.ev e h
  ·rw[List.length_take,List.length_drop];omega
 ·rename_i h1
  rw[if_neg h1] at h
  exact absurd h (show¬(90:Int)=0 by decide)
theorem fine2 (h:(Qs s o).1=0):zZ (Qs s o):=by
 unfold Qs at h ⊢
 split
 ·rename_i h1
  have hb1:=hr.b1
  have hb:o.b≤s.bars.length:=by simp only[aK.b];omega
  refine⟨⟨Tm hs.sm ho hb (by omega),fun x hx=>?_⟩,vC kY kY kY kY rH (yB (by omega))⟩
  rcases Gq hx with h|h
  ·exact hs.sh x h
  ·exact(ho.ba x h).1
 ·rename_i h1
  rw[if_neg h1] at h
  exact absurd h (show¬(90:Int)=0 by decide)
theorem fine3 (h:(Ls s o).1=0):zZ (Ls s o):=by
 have _:=ho
 unfold Ls at h ⊢
 split
 ·rename_i h1
  have hb1:=hr.b1
  have hp1:=hr.p1
  have hb:o.b+o.n≤s.bars.length:=by simp only[aK.b,aK.n];omega
  refine⟨⟨Qj hs.sm hb,fun x hx=>hs.sh x (Gs hx)⟩,vC kY ⟨fun x hx=>⟨hs.sh x (Pn hx),hs.sm.bars x (Pn hx)⟩,?_⟩ ⟨fun l hl=>?_,?_⟩ ⟨fun l hl=>?_,?_⟩ rH (yB (by omega))⟩
  ·simp only[oH,List.length_take,List.length_drop];omega
  ·obtain⟨p,hp,rfl⟩:=List.mem_map.1 hl
   have:=(hr.len p hp).1
   exact⟨by simp only[oH,List.length_take,List.length_drop];omega,fun c hc=>(hs.sm.parts p hp).voices c (Pn hc)⟩
  ·rw[List.length_map];omega
  ·obtain⟨p,hp,rfl⟩:=List.mem_map.1 hl
   have:=(hr.len p hp).2
   exact⟨by simp only[oH,List.length_take,List.length_drop];omega,fun c hc=>(hs.sm.parts p hp).dyns c (Pn hc)⟩
  ·rw[List.length_map];omega
 ·rename_i h1
  rw[if_neg h1] at h
  exact absurd h (show¬(90:Int)=0 by decide)
theorem fine4 (h:(Lt s o).1=0):zZ (Lt s o):=by
 unfold Lt at h ⊢
 split
 ·rename_i h1
  have hb1:=hr.b1
  have hb:o.b<s.bars.length:=by simp only[aK.b];omega
  have hxm:o.bars.getD 0 ba0∈o.bars:=getD_mem (by omega)
  have hx:=ho.ba _ hxm
  have hym:s.bars.getD o.b ba0∈s.bars:=getD_mem hb
  refine⟨⟨⟨fun y hy=>?_,hs.sm.parts,by simp only[Bh,List.length_set];exact hs.sm.nbars,hs.sm.nparts⟩,fun y hy=>?_⟩,vC kY (aJb ⟨hs.sh _ hym,hs.sm.bars _ hym⟩ (by decide)) kY kY rH (yB (by omega))⟩
  ·rcases Jm hy with h|rfl
   ·exact hs.sm.bars y h
   ·exact hx.2
  ·rcases Jm hy with h|rfl
   ·exact hs.sh y h
   ·exact hx.1
 ·rename_i h1
  rw[if_neg h1] at h
  exact absurd h (show¬(90:Int)=0 by decide)
theorem fine5 (h:(Lu s o).1=0):zZ (Lu s o):=by
 unfold Lu at h ⊢
 split
 ·rename_i h1
  obtain⟨⟨⟨p0,p1⟩,b0,b1⟩,h2,h3⟩:=h1
  have hb1:=hr.b1
  have hj:o.j<s.parts.length:=by simp only[aK.j];omega
  have hb:o.b<s.bars.length:=by simp only[aK.b];omega
  have hm1:o.dyns.getD 0 []∈o.dyns:=getD_mem (by omega)
  have hm2:(o.dyns.getD 0 []).getD 0 []∈o.dyns.getD 0 []:=getD_mem (by omega)
  have hy:=(ho.dy _ hm1).2 _ hm2
  have hp:=Dk hs hj
  have hm:=getD_mem (d:=pa0) hj
  have hdl:=(hr.len _ hm).2
  have hdm:(s.parts.getD o.j pa0).dyns.getD o.b []∈(s.parts.getD o.j pa0).dyns:=getD_mem (by omega)
  refine⟨Hu hs ⟨hp.voices,fun d hd=>?_⟩,vC kY kY kY (aJb ⟨(show 1≤400000 by decide),fun d hd=>?_⟩ (by decide)) rH (yB (by omega))⟩
  ·rcases Jm hd with h|rfl
   ·exact hp.dyns d h
   ·exact hy
  ·simp only[List.mem_singleton] at hd
   subst hd
   exact hp.dyns _ hdm
 ·rename_i h1
  rw[if_neg h1] at h
  exact absurd h (show¬(90:Int)=0 by decide)
theorem fine6 (h:(Hq s o).1=0):zZ (Hq s o):=by
 unfold Hq at h ⊢
 split
 ·rename_i h1
  obtain⟨⟨⟨p0,p1⟩,b0,b1⟩,⟨v0,v1⟩,h3,h4,h5⟩:=h1
  have hb1:=hr.b1
  have hj:o.j<s.parts.length:=by simp only[aK.j];omega
  have hb:o.b<s.bars.length:=by simp only[aK.b];omega
  have hm1:o.cells.getD 0 []∈o.cells:=getD_mem (by omega)
  have hm2:(o.cells.getD 0 []).getD 0 []∈o.cells.getD 0 []:=getD_mem (by omega)
  have hm3:((o.cells.getD 0 []).getD 0 []).getD 0 ⟨[]⟩∈(o.cells.getD 0 []).getD 0 []:=getD_mem (by omega)
  have hy:=((ho.ce _ hm1).2 _ hm2).2 _ hm3
  have hp:=Dk hs hj
  have hcs:=Yb hs hr hj hb
  have hcl:(o.cell s).length≤4:=aEh hs hr hj hb
  have hv:o.v≤(o.cell s).length:=by simp only[aK.v];omega
  refine⟨Hu hs ⟨fun c hc=>?_,hp.dyns⟩,vC kY kY kY kY rH (yB (by omega))⟩
  rcases Jm hc with h|rfl
  ·exact hp.voices c h
  ·refine⟨by rw[show((s.parts.getD o.j pa0).cells.getD o.b [])=o.cell s from rfl,xM hv];simp only[List.length_cons,List.length_nil];omega,fun w hw=>?_⟩
   rcases Gq hw with h|h
   ·exact hcs w h
   ·simp only[List.mem_singleton] at h
    subst h;exact hy
 ·rename_i h1
  rw[if_neg h1] at h
  exact absurd h (show¬(90:Int)=0 by decide)
theorem fine7 (h:(Ag s o).1=0):zZ (Ag s o):=by
 have _:=ho
 unfold Ag at h ⊢
 split
 ·rename_i h1
  obtain⟨⟨⟨p0,p1⟩,b0,b1⟩,⟨v0,v1⟩⟩:=h1
  have hb1:=hr.b1
  have hj:o.j<s.parts.length:=by simp only[aK.j];omega
  have hb:o.b<s.bars.length:=by simp only[aK.b];omega
  have hp:=Dk hs hj
  have hcs:=Yb hs hr hj hb
  have hcl:(o.cell s).length≤4:=aEh hs hr hj hb
  have hv:o.v< (o.cell s).length:=by simp only[aK.v];omega
  have hxm:(o.cell s).getD o.v ⟨[]⟩∈o.cell s:=getD_mem hv
  refine⟨Hu hs ⟨fun c hc=>?_,hp.dyns⟩,vC kY kY (aJb ⟨(show 1≤400000 by decide),fun c hc=>?_⟩ (by decide)) kY rH (yB (by omega))⟩
  ·rcases Jm hc with h|rfl
   ·exact hp.voices c h
   ·exact⟨by rw[show((s.parts.getD o.j pa0).cells.getD o.b [])=o.cell s from rfl,xN (by omega)];omega,fun w hw=>hcs w (Gs hw)⟩
  ·simp only[List.mem_singleton] at hc
   subst hc
   refine⟨(show 1≤1000000 by decide),fun w hw=>?_⟩
   simp only[List.mem_singleton] at hw
   subst hw
   exact hcs _ hxm
 ·rename_i h1
  rw[if_neg h1] at h
  exact absurd h (show¬(90:Int)=0 by decide)
omit ho hr in
theorem fine8 (h:(Wl s o).1=0):zZ (Wl s o):=by
 unfold Wl at h ⊢
 split
 ·rename_i h1
  split
  ·rename_i h2
   have hj:o.j<s.parts.length:=by simp only[aK.upOk,Bool.and_eq_true,decide_eq_true_eq] at h1;simp only[aK.j];omega
   have hp:=Dk hs hj
   exact⟨Hu hs (Pa.up_small (st:=o.steps) (ha:=o.halves) hp),vC kY kY kY kY rH rH⟩
  ·refine⟨⟨⟨fun b hb=>?_,fun p hp=>?_,by simp only[wR,List.length_map];exact hs.sm.nbars,by simp only[wR,List.length_map];exact hs.sm.nparts⟩,fun b hb=>?_⟩,vC kY kY kY kY rH rH⟩
   ·obtain⟨b',hb',rfl⟩:=List.mem_map.1 hb
    exact Ba.up_ok (hs.sm.bars b' hb')
   ·obtain⟨p',hp',rfl⟩:=List.mem_map.1 hp
    exact Pa.up_small (hs.sm.parts p' hp')
   ·obtain⟨b',hb',rfl⟩:=List.mem_map.1 hb
    have:=hs.sh b' hb'
    exact⟨this.g,this.e,this.t⟩
 ·rename_i h1
  rw[if_neg h1] at h
  exact absurd h (show¬(90:Int)=0 by decide)
theorem aO2 (h:(rG s o).1=0):zZ (rG s o):=by
 unfold rG at h ⊢
 repeat' split
 all_goals simp only[*,if_true,if_false] at h
 ·exact fine1 hs ho hr h
 ·exact fine2 hs ho hr h
 ·exact fine3 hs ho hr h
 ·exact fine4 hs ho hr h
 ·exact fine5 hs ho hr h
 ·exact fine6 hs ho hr h
 ·exact fine7 hs ho hr h
 ·exact fine8 hs h
 ·exact⟨⟨⟨hs.sm.bars,hs.sm.parts,hs.sm.nbars,hs.sm.nparts⟩,hs.sh⟩,vC kY kY kY kY rH rH⟩
 ·exact absurd h (show¬(90:Int)=0 by decide)
end
theorem aG0 {s:Sc} {o:aK} (hs:s.fine) (ho:o.fine) (h:(gY s o).1=0):zZ (gY s o):=by
 unfold gY at h ⊢
 split at h
 ·rename_i h1
  rw[if_pos h1]
  split at h
  ·rename_i h2
   rw[if_pos h2]
   have:=aO2 hs ho (nV h1) h2
   exact⟨this.s,this.o⟩
  ·rename_i h2;exact absurd h h2
 ·rename_i h1;exact absurd h h1
end Go.Proofs.Pv
namespace Go.Proofs.Pv
open Go Go.Proofs
set_option maxRecDepth 100000
set_option maxHeartbeats 8000000
theorem aGw:PC Tryz.prog gl 8 [.agg [.str ⟨#[]⟩,.sl 14 [] .none,.sl 5 [] .none]] (fun v=>v= .tup [mO (0,0,0,0),.int .i64 82]):=jS zeroS aGv
theorem aLh (s:Sc) (o:aK) (hup:PC Tryz.prog gl 4 [] (fun v=>v= .bool true)) (h: ¬(s.fewB=true∧o.fewB=true)):PC Tryz.prog gl 3 [s.av,o.av] (fun v=>v= .bool true):=by
 (refine PC.introZ 2 mix (fn:=Tryz.f3) Tryz.func3 rfl (names 3 _ Tryz.func3) fun F hF hro W=>?_;simp -implicitDefEqProofs only[Tryz.ntmps3,Tryz.results3,aI,Nat.reduceAdd,Nat.reduceSub])
 repeat' (first
  |simp -implicitDefEqProofs only[↓reduceIte,aB,aC,facts,Nat.reduceAdd,Nat.reduceEqDiff,Sc.av,aK.av, *]
  |((with_reducible refine dO (fun _=>?_) (fun _=>?_))<;>try omega)
  |((with_reducible refine iW (fun _=>?_) (fun _=>?_))<;>try omega)
  |((with_reducible refine aT 4 ?_);refine PC.useZ hF hup (rfl) fun v hv=>?_;subst hv)
  |((with_reducible refine aT 5 ?_);refine PC.useZ hF (aE3 s) (rfl) fun v hv=>?_;subst hv)
  |((with_reducible refine aT 6 ?_);refine PC.useZ hF (Xa o) (rfl) fun v hv=>?_;subst hv))
 all_goals (exfalso;simp_all;done)
theorem aLi (s:Sc) (o:aK) (hup:PC Tryz.prog gl 4 [] (fun v=>v= .bool true)) (h1:s.fewB=true) (h2:o.fewB=true) (hs:s.small) (e:Int) (he:e≠0) (hse:s.checkR.2=0∨e=s.checkR.2) (hap:PC Tryz.prog gl 7 [s.av,o.av] (fun v=>v=errR e)):PC Tryz.prog gl 3 [s.av,o.av] (fun v=>v= .bool true):=by
 have hb:=(PLift.up hse)
 clear hse
 have he1:(e==0)=false:=by simpa using he
 (refine PC.introZ 2 mix (fn:=Tryz.f3) Tryz.func3 rfl (names 3 _ Tryz.func3) fun F hF hro W=>?_;simp -implicitDefEqProofs only[Tryz.ntmps3,Tryz.results3,aI,Nat.reduceAdd,Nat.reduceSub])
 repeat' (first
  |simp -implicitDefEqProofs only[↓reduceIte,aB,aC,facts,Nat.reduceAdd,Nat.reduceEqDiff,Int.reduceBEq,Sc.av,aK.av,errR,mO,qF, *]
  |((with_reducible refine dI (fun _=>?_) (fun _=>?_))<;>try omega)
  |((with_reducible refine iW (fun _=>?_) (fun _=>?_))<;>try omega)
  |((with_reducible refine oQ (fun _=>?_) (fun _=>?_))<;>try omega)
  |((with_reducible refine aT 4 ?_);refine PC.useZ hF hup (rfl) fun v hv=>?_;subst hv)
  |((with_reducible refine aT 5 ?_);refine PC.useZ hF (aE3 s) (rfl) fun v hv=>?_;subst hv)
  |((with_reducible refine aT 6 ?_);refine PC.useZ hF (Xa o) (rfl) fun v hv=>?_;subst hv)
  |((with_reducible refine aT 7 ?_);refine PC.useZ hF hap (rfl) fun v hv=>?_;subst hv)
  |((with_reducible refine aT 8 ?_);refine PC.useZ hF aGw (rfl) fun v hv=>?_;subst hv)
  |((with_reducible refine aT 8 ?_);refine PC.useZ hF (jS s hs) (rfl) fun v hv=>?_;subst hv))
 all_goals (rcases hb.down with hb|hb<;>simp_all)
theorem aLj (s t:Sc) (o b:aK) (hup:PC Tryz.prog gl 4 [] (fun v=>v= .bool true)) (h1:s.fewB=true) (h2:o.fewB=true) (hs:s.small) (ht:t.small) (hc:s.checkR.2=0) (hd:t.checkR.2=0) (hap:PC Tryz.prog gl 7 [s.av,o.av] (fun v=>v= .tup [t.av,b.av,.int .i64 0])):PC Tryz.prog gl 3 [s.av,o.av] (fun v=>v= .bool true):=by
 (refine PC.introZ 2 mix (fn:=Tryz.f3) Tryz.func3 rfl (names 3 _ Tryz.func3) fun F hF hro W=>?_;simp -implicitDefEqProofs only[Tryz.ntmps3,Tryz.results3,aI,Nat.reduceAdd,Nat.reduceSub])
 repeat' (first
  |simp -implicitDefEqProofs only[↓reduceIte,aB,aC,facts,Nat.reduceAdd,Nat.reduceEqDiff,Int.reduceBNe,Sc.av,aK.av,mO,qF, *]
  |((with_reducible refine aT 4 ?_);refine PC.useZ hF hup (rfl) fun v hv=>?_;subst hv)
  |((with_reducible refine aT 5 ?_);refine PC.useZ hF (aE3 s) (rfl) fun v hv=>?_;subst hv)
  |((with_reducible refine aT 6 ?_);refine PC.useZ hF (Xa o) (rfl) fun v hv=>?_;subst hv)
  |((with_reducible refine aT 7 ?_);refine PC.useZ hF hap (rfl) fun v hv=>?_;subst hv)
  |((with_reducible refine aT 8 ?_);refine PC.useZ hF (jS s hs) (rfl) fun v hv=>?_;subst hv)
  |((with_reducible refine aT 8 ?_);refine PC.useZ hF (jS t ht) (rfl) fun v hv=>?_;subst hv))
 all_goals (exfalso;simp_all;done)
theorem aLv (s:Sc) (o:aK) (hup:PC Tryz.prog gl 4 [] (fun v=>v= .bool true)) (ts:s.typed) (to:o.typed) (tb:o.typedB):PC Tryz.prog gl 3 [s.av,o.av] (fun v=>v= .bool true):=by
 by_cases hf:s.fewB=true∧o.fewB=true
 rotate_left
 ·exact aLh s o hup hf
 obtain⟨h1,h2⟩:=hf
 have hs:=aLq ts h1
 have ho:=aTo to tb h2
 have hap:=aC3 s o hs ho
 rcases aOy s o hs ho with⟨he,hse,hout⟩|⟨he,hc,hd,hout⟩
 ·rw[hout] at hap
  exact aLi s o hup h1 h2 hs.sm _ he hse hap
 ·rw[hout] at hap
  exact aLj s _ o _ hup h1 h2 hs.sm (aG0 hs ho he).s.sm hc hd hap
end Go.Proofs.Pv
