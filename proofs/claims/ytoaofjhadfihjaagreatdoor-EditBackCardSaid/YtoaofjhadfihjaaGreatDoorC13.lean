/-
EditRight: the law answers true for all scores and edits.
Conditions: none but those that each statement names.
-/
import Derived.Test.YtoaofjhadfihjaaGreatDoorC12
set_option linter.unusedVariables false
set_option linter.unusedSimpArgs false
set_option maxRecDepth 100000
set_option maxHeartbeats 16000000
namespace Go.Proofs.Pv
open Go Go.Proofs
def zeroS:Sc:=⟨⟨#[]⟩,[],[]⟩
theorem aEk (s:Sc) (o:aH) (hs:s.fine) (ho:o.fine):((dF s o).1≠0/\(s.checkR.2=0\/(dF s o).1=s.checkR.2)/\qO (dF s o)=errR (dF s o).1)\/((dF s o).1=0/\s.checkR.2=0/\(dF s o).2.1.checkR.2=0/\qO (dF s o)= .tup [(dF s o).2.1.av,(dF s o).2.2.av,.int .i64 0]):=by
 by_cases he:(dF s o).1=0
 ·refine .inr ⟨he,?_⟩
  rw[qO,if_pos he]
  rw[dF] at he ⊢
  split at he
  ·rename_i h1
   rw[if_pos h1]
   split at he
   ·rename_i h2
    rw[if_pos h2]
    exact⟨h1,he,rfl⟩
   ·rename_i h2;exact absurd he h2
  ·rename_i h1;exact absurd he h1
 ·refine .inl ⟨he,?_,by rw[qO,if_neg he]⟩
  by_cases h1:s.checkR.2=0
  ·exact .inl h1
  ·exact .inr (by rw[dF,if_neg h1];rfl)
structure Bf (r:Ans):Prop where
 s:r.2.1.fine
 o:r.2.2.fine
theorem yT {n:Nat} (h:n<=1000000):I64 ((n:Nat):Int):=by unfold I64;omega
theorem vY {k p b v a c st ha:Int} {ev:List Ev} {ba:List Ba} {ce:List (List (List Vo))} {dy:List (List (List Dy))} {t:ByteArray} (h1:(∀e∈ev,e.small)/\ev.length<=400000) (h2:(∀x∈ba,x.short/\x.ok)/\ba.length<=400000)
  (h3:(∀l∈ce,l.length<=400000/\ ∀c∈l,c.length<=1000000/\ ∀v∈c,v.small)/\ce.length<=1000000) (h4:(∀l∈dy,l.length<=400000/\ ∀d∈l,d.length<=1000000/\ ∀t∈d,t.at_.fits)/\dy.length<=1000000) (h5:I64 a) (h6:I64 b):(⟨k,p,b,v,a,c,ev,ba,ce,dy,st,ha,t⟩:aH).fine:=
 ⟨h1.1,h1.2,h2.1,h2.2,h3.1,h3.2,h4.1,h4.2,h5,h6⟩
theorem lN {α:Type} {p:α->Prop} {n:Nat}:(∀x∈([]:List α),p x)/\([]:List α).length<=n:=⟨(fun _ h=>nomatch h),Nat.zero_le _⟩
theorem aJq {α:Type} {p:α->Prop} {x:α} {n:Nat} (h:p x) (hn:1<=n):(∀y∈[x],p y)/\[x].length<=n:=⟨(fun y hy=>by simp only[List.mem_singleton] at hy;subst hy;exact h),hn⟩
theorem Kz {α:Type} {l:List α} {i:Nat} {x y:α} (h:y∈l.set i x):y∈l\/y=x:=List.mem_or_eq_of_mem_set h
section
variable {s:Sc} {o:aH} (hs:s.fine) (ho:o.fine) (hr:Right s)
include hs hr
omit hr in
omit hr in
theorem Iw {j:Nat} {p:Pa} (h:p.small):({s with parts:=s.parts.set j p}:Sc).fine:=⟨Jv hs.sm h,hs.sh⟩
omit hr in
theorem Em {j:Nat} (hj:j<s.parts.length):(s.parts.getD j pa0).small:=hs.sm.parts _ (getD_mem hj)
theorem Yx {j b:Nat} (hj:j<s.parts.length) (hb:b<s.bars.length): ∀v∈(s.parts.getD j pa0).cells.getD b [],v.small:=by
 have hm:=getD_mem (d:=pa0) hj
 have:=(hr.len _ hm).1
 exact((hs.sm.parts _ hm).voices _ (getD_mem (by omega))).2
theorem aEu {j b:Nat} (hj:j<s.parts.length) (hb:b<s.bars.length):((s.parts.getD j pa0).cells.getD b []).length<=4:=by
 have _:=hs
 have hm:=getD_mem (d:=pa0) hj
 have:=(hr.len _ hm).1
 exact(hr.cell _ hm _ (getD_mem (by omega))).2
include ho
theorem fine1 (h:(zK s o).1=0):Bf (zK s o):=by
 unfold zK at h ⊢
 split
 ·rename_i h1
  obtain⟨⟨⟨p0,p1⟩,b0,b1⟩,⟨v0,v1⟩,h3⟩:=h1
  have hj:o.j<s.parts.length:=by simp only[aH.j];omega
  have hb:o.b<s.bars.length:=by simp only[aH.b];omega
  have hv0:o.v< (o.cell s).length:=by simp only[aH.v];omega
  have hm:=getD_mem (d:=pa0) hj
  have hcl:=(hr.len _ hm).1
  have hbc:o.b< (s.parts.getD o.j pa0).cells.length:=by omega
  have hcm:o.cell s∈(s.parts.getD o.j pa0).cells:=getD_mem hbc
  have hvm:(o.cell s).getD o.v ⟨[]⟩∈o.cell s:=getD_mem hv0
  have hvl:(o.vo s).length<=64:=(hr.vo _ hm _ hcm _ hvm).2
  have hvs:Vo.small ((o.cell s).getD o.v ⟨[]⟩):=((hs.sm.parts _ hm).voices _ hcm).2 _ hvm
  have hes: ∀e∈o.vo s,e.small:=hvs.2
  have hel:=ho.evl
  have hb1:=hr.b1
  refine⟨⟨aDa hs.sm hj hbc hv0 ⟨?_,fun e he=>?_⟩,hs.sh⟩,vY ⟨fun e he=>hes e (List.mem_of_mem_drop (List.mem_of_mem_take he)),?_⟩ lN lN lN (yT (by simp only[aH.a];omega)) (yT (by omega))⟩
  ·show(fZ (o.vo s) o.a o.n o.events).length<=1000000
   simp only[fZ,List.length_append,List.length_take,List.length_drop];omega
  ·have he:e∈fZ (o.vo s) o.a o.n o.events:=he
   rcases aPy he with h|h
   ·exact hes e h
   ·exact ho.ev e h
  ·rw[List.length_take,List.length_drop];omega
 ·rename_i h1
  rw[if_neg h1] at h
  exact absurd h (show¬(90:Int)=0 by decide)
theorem fine2 (h:(Ai s o).1=0):Bf (Ai s o):=by
 unfold Ai at h ⊢
 split
 ·rename_i h1
  have hb1:=hr.b1
  have hb:o.b<=s.bars.length:=by simp only[aH.b];omega
  refine⟨⟨Uk hs.sm ho hb (by omega),fun x hx=>?_⟩,vY lN lN lN lN sH (yT (by omega))⟩
  rcases Hu hx with h|h
  ·exact hs.sh x h
  ·exact(ho.ba x h).1
 ·rename_i h1
  rw[if_neg h1] at h
  exact absurd h (show¬(90:Int)=0 by decide)
theorem fine3 (h:(yB s o).1=0):Bf (yB s o):=by
 have _:=ho
 unfold yB at h ⊢
 split
 ·rename_i h1
  have hb1:=hr.b1
  have hp1:=hr.p1
  have hb:o.b+o.n<=s.bars.length:=by simp only[aH.b,aH.n];omega
  refine⟨⟨Rj hs.sm hb,fun x hx=>hs.sh x (Hw hx)⟩,vY lN ⟨fun x hx=>⟨hs.sh x (Qk hx),hs.sm.bars x (Qk hx)⟩,?_⟩ ⟨fun l hl=>?_,?_⟩ ⟨fun l hl=>?_,?_⟩ sH (yT (by omega))⟩
  ·simp only[jM,List.length_take,List.length_drop];omega
  ·obtain⟨p,hp,rfl⟩:=List.mem_map.1 hl
   have:=(hr.len p hp).1
   exact⟨by simp only[jM,List.length_take,List.length_drop];omega,fun c hc=>(hs.sm.parts p hp).voices c (Qk hc)⟩
  ·rw[List.length_map];omega
  ·obtain⟨p,hp,rfl⟩:=List.mem_map.1 hl
   have:=(hr.len p hp).2
   exact⟨by simp only[jM,List.length_take,List.length_drop];omega,fun c hc=>(hs.sm.parts p hp).dyns c (Qk hc)⟩
  ·rw[List.length_map];omega
 ·rename_i h1
  rw[if_neg h1] at h
  exact absurd h (show¬(90:Int)=0 by decide)
theorem fine4 (h:(yC s o).1=0):Bf (yC s o):=by
 unfold yC at h ⊢
 split
 ·rename_i h1
  have hb1:=hr.b1
  have hb:o.b<s.bars.length:=by simp only[aH.b];omega
  have hxm:o.bars.getD 0 Iq∈o.bars:=getD_mem (by omega)
  have hx:=ho.ba _ hxm
  have hym:s.bars.getD o.b Iq∈s.bars:=getD_mem hb
  refine⟨⟨⟨fun y hy=>?_,hs.sm.parts,by simp only[tX,List.length_set];exact hs.sm.nbars,hs.sm.nparts⟩,fun y hy=>?_⟩,vY lN (aJq ⟨hs.sh _ hym,hs.sm.bars _ hym⟩ (by decide)) lN lN sH (yT (by omega))⟩
  ·rcases Kz hy with h|rfl
   ·exact hs.sm.bars y h
   ·exact hx.2
  ·rcases Kz hy with h|rfl
   ·exact hs.sh y h
   ·exact hx.1
 ·rename_i h1
  rw[if_neg h1] at h
  exact absurd h (show¬(90:Int)=0 by decide)
theorem fine5 (h:(yD s o).1=0):Bf (yD s o):=by
 unfold yD at h ⊢
 split
 ·rename_i h1
  obtain⟨⟨⟨p0,p1⟩,b0,b1⟩,h2,h3⟩:=h1
  have hb1:=hr.b1
  have hj:o.j<s.parts.length:=by simp only[aH.j];omega
  have hb:o.b<s.bars.length:=by simp only[aH.b];omega
  have hm1:o.dyns.getD 0 []∈o.dyns:=getD_mem (by omega)
  have hm2:(o.dyns.getD 0 []).getD 0 []∈o.dyns.getD 0 []:=getD_mem (by omega)
  have hy:=(ho.dy _ hm1).2 _ hm2
  have hp:=Em hs hj
  have hm:=getD_mem (d:=pa0) hj
  have hdl:=(hr.len _ hm).2
  have hdm:(s.parts.getD o.j pa0).dyns.getD o.b []∈(s.parts.getD o.j pa0).dyns:=getD_mem (by omega)
  refine⟨Iw hs ⟨hp.voices,fun d hd=>?_⟩,vY lN lN lN (aJq ⟨(show 1<=400000 by decide),fun d hd=>?_⟩ (by decide)) sH (yT (by omega))⟩
  ·rcases Kz hd with h|rfl
   ·exact hp.dyns d h
   ·exact hy
  ·simp only[List.mem_singleton] at hd
   subst hd
   exact hp.dyns _ hdm
 ·rename_i h1
  rw[if_neg h1] at h
  exact absurd h (show¬(90:Int)=0 by decide)
theorem fine6 (h:(xC s o).1=0):Bf (xC s o):=by
 unfold xC at h ⊢
 split
 ·rename_i h1
  obtain⟨⟨⟨p0,p1⟩,b0,b1⟩,⟨v0,v1⟩,h3,h4,h5⟩:=h1
  have hb1:=hr.b1
  have hj:o.j<s.parts.length:=by simp only[aH.j];omega
  have hb:o.b<s.bars.length:=by simp only[aH.b];omega
  have hm1:o.cells.getD 0 []∈o.cells:=getD_mem (by omega)
  have hm2:(o.cells.getD 0 []).getD 0 []∈o.cells.getD 0 []:=getD_mem (by omega)
  have hm3:((o.cells.getD 0 []).getD 0 []).getD 0 ⟨[]⟩∈(o.cells.getD 0 []).getD 0 []:=getD_mem (by omega)
  have hy:=((ho.ce _ hm1).2 _ hm2).2 _ hm3
  have hp:=Em hs hj
  have hcs:=Yx hs hr hj hb
  have hcl:(o.cell s).length<=4:=aEu hs hr hj hb
  have hv:o.v<=(o.cell s).length:=by simp only[aH.v];omega
  refine⟨Iw hs ⟨fun c hc=>?_,hp.dyns⟩,vY lN lN lN lN sH (yT (by omega))⟩
  rcases Kz hc with h|rfl
  ·exact hp.voices c h
  ·refine⟨by rw[show((s.parts.getD o.j pa0).cells.getD o.b [])=o.cell s from rfl,rO hv];simp only[List.length_cons,List.length_nil];omega,fun w hw=>?_⟩
   rcases Hu hw with h|h
   ·exact hcs w h
   ·simp only[List.mem_singleton] at h
    subst h;exact hy
 ·rename_i h1
  rw[if_neg h1] at h
  exact absurd h (show¬(90:Int)=0 by decide)
theorem fine7 (h:(sO s o).1=0):Bf (sO s o):=by
 have _:=ho
 unfold sO at h ⊢
 split
 ·rename_i h1
  obtain⟨⟨⟨p0,p1⟩,b0,b1⟩,⟨v0,v1⟩⟩:=h1
  have hb1:=hr.b1
  have hj:o.j<s.parts.length:=by simp only[aH.j];omega
  have hb:o.b<s.bars.length:=by simp only[aH.b];omega
  have hp:=Em hs hj
  have hcs:=Yx hs hr hj hb
  have hcl:(o.cell s).length<=4:=aEu hs hr hj hb
  have hv:o.v< (o.cell s).length:=by simp only[aH.v];omega
  have hxm:(o.cell s).getD o.v ⟨[]⟩∈o.cell s:=getD_mem hv
  refine⟨Iw hs ⟨fun c hc=>?_,hp.dyns⟩,vY lN lN (aJq ⟨(show 1<=400000 by decide),fun c hc=>?_⟩ (by decide)) lN sH (yT (by omega))⟩
  ·rcases Kz hc with h|rfl
   ·exact hp.voices c h
   ·exact⟨by rw[show((s.parts.getD o.j pa0).cells.getD o.b [])=o.cell s from rfl,yH (by omega)];omega,fun w hw=>hcs w (Hw hw)⟩
  ·simp only[List.mem_singleton] at hc
   subst hc
   refine⟨(show 1<=1000000 by decide),fun w hw=>?_⟩
   simp only[List.mem_singleton] at hw
   subst hw
   exact hcs _ hxm
 ·rename_i h1
  rw[if_neg h1] at h
  exact absurd h (show¬(90:Int)=0 by decide)
omit ho hr in
theorem fine8 (h:(zL s o).1=0):Bf (zL s o):=by
 unfold zL at h ⊢
 split
 ·rename_i h1
  split
  ·rename_i h2
   have hj:o.j<s.parts.length:=by simp only[aH.upOk,Bool.and_eq_true,decide_eq_true_eq] at h1;simp only[aH.j];omega
   have hp:=Em hs hj
   exact⟨Iw hs (Pa.up_small (st:=o.steps) (ha:=o.halves) hp),vY lN lN lN lN sH sH⟩
  ·refine⟨⟨⟨fun b hb=>?_,fun p hp=>?_,by simp only[qL,List.length_map];exact hs.sm.nbars,by simp only[qL,List.length_map];exact hs.sm.nparts⟩,fun b hb=>?_⟩,vY lN lN lN lN sH sH⟩
   ·obtain⟨b',hb',rfl⟩:=List.mem_map.1 hb
    exact Ba.up_ok (hs.sm.bars b' hb')
   ·obtain⟨p',hp',rfl⟩:=List.mem_map.1 hp
    exact Pa.up_small (hs.sm.parts p' hp')
   ·obtain⟨b',hb',rfl⟩:=List.mem_map.1 hb
    have:=hs.sh b' hb'
    exact⟨this.g,this.e,this.t⟩
 ·rename_i h1
  rw[if_neg h1] at h
  exact absurd h (show¬(90:Int)=0 by decide)
theorem aPp (h:(gG s o).1=0):Bf (gG s o):=by
 unfold gG at h ⊢
 repeat' split
 all_goals simp only[*,if_true,if_false] at h
 ·exact fine1 hs ho hr h
 ·exact fine2 hs ho hr h
 ·exact fine3 hs ho hr h
 ·exact fine4 hs ho hr h
 ·exact fine5 hs ho hr h
 ·exact fine6 hs ho hr h
 ·exact fine7 hs ho hr h
 ·exact fine8 hs h
 ·exact⟨⟨⟨hs.sm.bars,hs.sm.parts,hs.sm.nbars,hs.sm.nparts⟩,hs.sh⟩,vY lN lN lN lN sH sH⟩
 ·exact absurd h (show¬(90:Int)=0 by decide)
end
theorem Jw {s:Sc} {o:aH} (hs:s.fine) (ho:o.fine) (h:(dF s o).1=0):Bf (dF s o):=by
 unfold dF at h ⊢
 split at h
 ·rename_i h1
  rw[if_pos h1]
  split at h
  ·rename_i h2
   rw[if_pos h2]
   have:=aPp hs ho (mM h1) h2
   exact⟨this.s,this.o⟩
  ·rename_i h2;exact absurd h h2
 ·rename_i h1;exact absurd h h1
end Go.Proofs.Pv
