/-
EditRight: the law answers true for all scores and edits.
Conditions: none but those that each statement names.
-/
import Derived.Test.YtlcnbhiklpfpjaaGreatDoorC12
set_option linter.unusedVariables false
set_option linter.unusedSimpArgs false
set_option maxRecDepth 100000
set_option maxHeartbeats 16000000
namespace Go.Proofs.Pv
open Go Go.Proofs
def zeroS:Sc:=⟨⟨#[]⟩,[],[]⟩
theorem Xk (s:Sc) (o:aH) (hs:s.fine) (ho:o.fine):((dA s o).1≠0/\(s.checkR.2=0\/(dA s o).1=s.checkR.2)/\sV (dA s o)=errR (dA s o).1)\/((dA s o).1=0/\s.checkR.2=0/\(dA s o).2.1.checkR.2=0/\sV (dA s o)= .tup [(dA s o).2.1.av,(dA s o).2.2.av,.int .i64 0]):=by
 by_cases he:(dA s o).1=0
 ·refine .inr ⟨he,?_⟩
  rw[sV,if_pos he]
  rw[dA] at he ⊢
  split at he
  ·rename_i h1
   rw[if_pos h1]
   split at he
   ·rename_i h2
    rw[if_pos h2]
    exact⟨h1,he,rfl⟩
   ·rename_i h2;exact absurd he h2
  ·rename_i h1;exact absurd he h1
 ·refine .inl ⟨he,?_,by rw[sV,if_neg he]⟩
  by_cases h1:s.checkR.2=0
  ·exact .inl h1
  ·exact .inr (by rw[dA,if_neg h1];rfl)
structure Bj (r:Ans):Prop where
 s:r.2.1.fine
 o:r.2.2.fine
theorem yZ {n:Nat} (h:n<=1000000):I64 ((n:Nat):Int):=by unfold I64;omega
theorem wC {k p b v a c st ha:Int} {ev:List Ev} {ba:List Ba} {ce:List (List (List Vo))} {dy:List (List (List Dy))} {t:ByteArray} (h1:(∀e∈ev,e.small)/\ev.length<=400000) (h2:(∀x∈ba,x.short/\x.ok)/\ba.length<=400000)
  (h3:(∀l∈ce,l.length<=400000/\ ∀c∈l,c.length<=1000000/\ ∀v∈c,v.small)/\ce.length<=1000000) (h4:(∀l∈dy,l.length<=400000/\ ∀d∈l,d.length<=1000000/\ ∀t∈d,t.at_.fits)/\dy.length<=1000000) (h5:I64 a) (h6:I64 b):(⟨k,p,b,v,a,c,ev,ba,ce,dy,st,ha,t⟩:aH).fine:=
 ⟨h1.1,h1.2,h2.1,h2.2,h3.1,h3.2,h4.1,h4.2,h5,h6⟩
theorem lS {α:Type} {p:α->Prop} {n:Nat}:(∀x∈([]:List α),p x)/\([]:List α).length<=n:=⟨(fun _ h=>nomatch h),Nat.zero_le _⟩
theorem aJy {α:Type} {p:α->Prop} {x:α} {n:Nat} (h:p x) (hn:1<=n):(∀y∈[x],p y)/\[x].length<=n:=⟨(fun y hy=>by simp only[List.mem_singleton] at hy;subst hy;exact h),hn⟩
theorem Ld {α:Type} {l:List α} {i:Nat} {x y:α} (h:y∈l.set i x):y∈l\/y=x:=List.mem_or_eq_of_mem_set h
section
variable {s:Sc} {o:aH} (hs:s.fine) (ho:o.fine) (hr:Right s)
include hs hr
omit hr in
omit hr in
theorem Jb {j:Nat} {p:Pa} (h:p.small):({s with parts:=s.parts.set j p}:Sc).fine:=⟨Ko hs.sm h,hs.sh⟩
omit hr in
theorem Ew {j:Nat} (hj:j<s.parts.length):(s.parts.getD j pa0).small:=hs.sm.parts _ (getD_mem hj)
theorem Za {j b:Nat} (hj:j<s.parts.length) (hb:b<s.bars.length): ∀v∈(s.parts.getD j pa0).cells.getD b [],v.small:=by
 have hm:=getD_mem (d:=pa0) hj
 have:=(hr.len _ hm).1
 exact((hs.sm.parts _ hm).voices _ (getD_mem (by omega))).2
theorem aE1 {j b:Nat} (hj:j<s.parts.length) (hb:b<s.bars.length):((s.parts.getD j pa0).cells.getD b []).length<=4:=by
 have _:=hs
 have hm:=getD_mem (d:=pa0) hj
 have:=(hr.len _ hm).1
 exact(hr.cell _ hm _ (getD_mem (by omega))).2
include ho
theorem fine1 (h:(zO s o).1=0):Bj (zO s o):=by
 unfold zO at h ⊢
 split
 ·rename_i h1
  obtain⟨⟨⟨p0,p1⟩,b0,b1⟩,⟨v0,v1⟩,h3⟩:=h1
  have hj:o.j<s.parts.length:=by simp only[aH.j];omega
  have hb:o.b<s.bars.length:=by simp only[aH.b];omega
  have hv0:o.v< (o.cell s).length:=by simp only[aH.v];omega
  have hm:=getD_mem (d:=pa0) hj
  have hcl:=(hr.len _ hm).1
  have hbc:o.b< (s.parts.getD o.j pa0).cells.length:=by omega
  have hcm:o.cell s∈(s.parts.getD o.j pa0).cells:=getD_mem hbc
  have hvm:(o.cell s).getD o.v ⟨[]⟩∈o.cell s:=getD_mem hv0
  have hvl:(o.vo s).length<=64:=(hr.vo _ hm _ hcm _ hvm).2
  have hvs:Vo.small ((o.cell s).getD o.v ⟨[]⟩):=((hs.sm.parts _ hm).voices _ hcm).2 _ hvm
  have hes: ∀e∈o.vo s,e.small:=hvs.2
  have hel:=ho.evl
  have hb1:=hr.b1
  refine⟨⟨aDg hs.sm hj hbc hv0 ⟨?_,fun e he=>?_⟩,hs.sh⟩,wC ⟨fun e he=>hes e (List.mem_of_mem_drop (List.mem_of_mem_take he)),?_⟩ lS lS lS (yZ (by simp only[aH.a];omega)) (yZ (by omega))⟩
  ·show(fZ (o.vo s) o.a o.n o.events).length<=1000000
   simp only[fZ,List.length_append,List.length_take,List.length_drop];omega
  ·have he:e∈fZ (o.vo s) o.a o.n o.events:=he
   rcases aP6 he with h|h
   ·exact hes e h
   ·exact ho.ev e h
  ·rw[List.length_take,List.length_drop];omega
 ·rename_i h1
  rw[if_neg h1] at h
  exact absurd h (show¬(90:Int)=0 by decide)
theorem fine2 (h:(Ap s o).1=0):Bj (Ap s o):=by
 unfold Ap at h ⊢
 split
 ·rename_i h1
  have hb1:=hr.b1
  have hb:o.b<=s.bars.length:=by simp only[aH.b];omega
  refine⟨⟨Un hs.sm ho hb (by omega),fun x hx=>?_⟩,wC lS lS lS lS sO (yZ (by omega))⟩
  rcases Ia hx with h|h
  ·exact hs.sh x h
  ·exact(ho.ba x h).1
 ·rename_i h1
  rw[if_neg h1] at h
  exact absurd h (show¬(90:Int)=0 by decide)
theorem fine3 (h:(yH s o).1=0):Bj (yH s o):=by
 have _:=ho
 unfold yH at h ⊢
 split
 ·rename_i h1
  have hb1:=hr.b1
  have hp1:=hr.p1
  have hb:o.b+o.n<=s.bars.length:=by simp only[aH.b,aH.n];omega
  refine⟨⟨Rn hs.sm hb,fun x hx=>hs.sh x (Ib hx)⟩,wC lS ⟨fun x hx=>⟨hs.sh x (Qn hx),hs.sm.bars x (Qn hx)⟩,?_⟩ ⟨fun l hl=>?_,?_⟩ ⟨fun l hl=>?_,?_⟩ sO (yZ (by omega))⟩
  ·simp only[jO,List.length_take,List.length_drop];omega
  ·obtain⟨p,hp,rfl⟩:=List.mem_map.1 hl
   have:=(hr.len p hp).1
   exact⟨by simp only[jO,List.length_take,List.length_drop];omega,fun c hc=>(hs.sm.parts p hp).voices c (Qn hc)⟩
  ·rw[List.length_map];omega
  ·obtain⟨p,hp,rfl⟩:=List.mem_map.1 hl
   have:=(hr.len p hp).2
   exact⟨by simp only[jO,List.length_take,List.length_drop];omega,fun c hc=>(hs.sm.parts p hp).dyns c (Qn hc)⟩
  ·rw[List.length_map];omega
 ·rename_i h1
  rw[if_neg h1] at h
  exact absurd h (show¬(90:Int)=0 by decide)
theorem fine4 (h:(yI s o).1=0):Bj (yI s o):=by
 unfold yI at h ⊢
 split
 ·rename_i h1
  have hb1:=hr.b1
  have hb:o.b<s.bars.length:=by simp only[aH.b];omega
  have hxm:o.bars.getD 0 Iy∈o.bars:=getD_mem (by omega)
  have hx:=ho.ba _ hxm
  have hym:s.bars.getD o.b Iy∈s.bars:=getD_mem hb
  refine⟨⟨⟨fun y hy=>?_,hs.sm.parts,by simp only[uC,List.length_set];exact hs.sm.nbars,hs.sm.nparts⟩,fun y hy=>?_⟩,wC lS (aJy ⟨hs.sh _ hym,hs.sm.bars _ hym⟩ (by decide)) lS lS sO (yZ (by omega))⟩
  ·rcases Ld hy with h|rfl
   ·exact hs.sm.bars y h
   ·exact hx.2
  ·rcases Ld hy with h|rfl
   ·exact hs.sh y h
   ·exact hx.1
 ·rename_i h1
  rw[if_neg h1] at h
  exact absurd h (show¬(90:Int)=0 by decide)
theorem fine5 (h:(yJ s o).1=0):Bj (yJ s o):=by
 unfold yJ at h ⊢
 split
 ·rename_i h1
  obtain⟨⟨⟨p0,p1⟩,b0,b1⟩,h2,h3⟩:=h1
  have hb1:=hr.b1
  have hj:o.j<s.parts.length:=by simp only[aH.j];omega
  have hb:o.b<s.bars.length:=by simp only[aH.b];omega
  have hm1:o.dyns.getD 0 []∈o.dyns:=getD_mem (by omega)
  have hm2:(o.dyns.getD 0 []).getD 0 []∈o.dyns.getD 0 []:=getD_mem (by omega)
  have hy:=(ho.dy _ hm1).2 _ hm2
  have hp:=Ew hs hj
  have hm:=getD_mem (d:=pa0) hj
  have hdl:=(hr.len _ hm).2
  have hdm:(s.parts.getD o.j pa0).dyns.getD o.b []∈(s.parts.getD o.j pa0).dyns:=getD_mem (by omega)
  refine⟨Jb hs ⟨hp.voices,fun d hd=>?_⟩,wC lS lS lS (aJy ⟨(show 1<=400000 by decide),fun d hd=>?_⟩ (by decide)) sO (yZ (by omega))⟩
  ·rcases Ld hd with h|rfl
   ·exact hp.dyns d h
   ·exact hy
  ·simp only[List.mem_singleton] at hd
   subst hd
   exact hp.dyns _ hdm
 ·rename_i h1
  rw[if_neg h1] at h
  exact absurd h (show¬(90:Int)=0 by decide)
theorem fine6 (h:(xJ s o).1=0):Bj (xJ s o):=by
 unfold xJ at h ⊢
 split
 ·rename_i h1
  obtain⟨⟨⟨p0,p1⟩,b0,b1⟩,⟨v0,v1⟩,h3,h4,h5⟩:=h1
  have hb1:=hr.b1
  have hj:o.j<s.parts.length:=by simp only[aH.j];omega
  have hb:o.b<s.bars.length:=by simp only[aH.b];omega
  have hm1:o.cells.getD 0 []∈o.cells:=getD_mem (by omega)
  have hm2:(o.cells.getD 0 []).getD 0 []∈o.cells.getD 0 []:=getD_mem (by omega)
  have hm3:((o.cells.getD 0 []).getD 0 []).getD 0 ⟨[]⟩∈(o.cells.getD 0 []).getD 0 []:=getD_mem (by omega)
  have hy:=((ho.ce _ hm1).2 _ hm2).2 _ hm3
  have hp:=Ew hs hj
  have hcs:=Za hs hr hj hb
  have hcl:(o.cell s).length<=4:=aE1 hs hr hj hb
  have hv:o.v<=(o.cell s).length:=by simp only[aH.v];omega
  refine⟨Jb hs ⟨fun c hc=>?_,hp.dyns⟩,wC lS lS lS lS sO (yZ (by omega))⟩
  rcases Ld hc with h|rfl
  ·exact hp.voices c h
  ·refine⟨by rw[show((s.parts.getD o.j pa0).cells.getD o.b [])=o.cell s from rfl,rU hv];simp only[List.length_cons,List.length_nil];omega,fun w hw=>?_⟩
   rcases Ia hw with h|h
   ·exact hcs w h
   ·simp only[List.mem_singleton] at h
    subst h;exact hy
 ·rename_i h1
  rw[if_neg h1] at h
  exact absurd h (show¬(90:Int)=0 by decide)
theorem fine7 (h:(sU s o).1=0):Bj (sU s o):=by
 have _:=ho
 unfold sU at h ⊢
 split
 ·rename_i h1
  obtain⟨⟨⟨p0,p1⟩,b0,b1⟩,⟨v0,v1⟩⟩:=h1
  have hb1:=hr.b1
  have hj:o.j<s.parts.length:=by simp only[aH.j];omega
  have hb:o.b<s.bars.length:=by simp only[aH.b];omega
  have hp:=Ew hs hj
  have hcs:=Za hs hr hj hb
  have hcl:(o.cell s).length<=4:=aE1 hs hr hj hb
  have hv:o.v< (o.cell s).length:=by simp only[aH.v];omega
  have hxm:(o.cell s).getD o.v ⟨[]⟩∈o.cell s:=getD_mem hv
  refine⟨Jb hs ⟨fun c hc=>?_,hp.dyns⟩,wC lS lS (aJy ⟨(show 1<=400000 by decide),fun c hc=>?_⟩ (by decide)) lS sO (yZ (by omega))⟩
  ·rcases Ld hc with h|rfl
   ·exact hp.voices c h
   ·exact⟨by rw[show((s.parts.getD o.j pa0).cells.getD o.b [])=o.cell s from rfl,yN (by omega)];omega,fun w hw=>hcs w (Ib hw)⟩
  ·simp only[List.mem_singleton] at hc
   subst hc
   refine⟨(show 1<=1000000 by decide),fun w hw=>?_⟩
   simp only[List.mem_singleton] at hw
   subst hw
   exact hcs _ hxm
 ·rename_i h1
  rw[if_neg h1] at h
  exact absurd h (show¬(90:Int)=0 by decide)
omit ho hr in
theorem fine8 (h:(zQ s o).1=0):Bj (zQ s o):=by
 unfold zQ at h ⊢
 split
 ·rename_i h1
  split
  ·rename_i h2
   have hj:o.j<s.parts.length:=by simp only[aH.upOk,Bool.and_eq_true,decide_eq_true_eq] at h1;simp only[aH.j];omega
   have hp:=Ew hs hj
   exact⟨Jb hs (Pa.up_small (st:=o.steps) (ha:=o.halves) hp),wC lS lS lS lS sO sO⟩
  ·refine⟨⟨⟨fun b hb=>?_,fun p hp=>?_,by simp only[qN,List.length_map];exact hs.sm.nbars,by simp only[qN,List.length_map];exact hs.sm.nparts⟩,fun b hb=>?_⟩,wC lS lS lS lS sO sO⟩
   ·obtain⟨b',hb',rfl⟩:=List.mem_map.1 hb
    exact Ba.up_ok (hs.sm.bars b' hb')
   ·obtain⟨p',hp',rfl⟩:=List.mem_map.1 hp
    exact Pa.up_small (hs.sm.parts p' hp')
   ·obtain⟨b',hb',rfl⟩:=List.mem_map.1 hb
    have:=hs.sh b' hb'
    exact⟨this.g,this.e,this.t⟩
 ·rename_i h1
  rw[if_neg h1] at h
  exact absurd h (show¬(90:Int)=0 by decide)
theorem aPx (h:(gG s o).1=0):Bj (gG s o):=by
 unfold gG at h ⊢
 repeat' split
 all_goals simp only[*,if_true,if_false] at h
 ·exact fine1 hs ho hr h
 ·exact fine2 hs ho hr h
 ·exact fine3 hs ho hr h
 ·exact fine4 hs ho hr h
 ·exact fine5 hs ho hr h
 ·exact fine6 hs ho hr h
 ·exact fine7 hs ho hr h
 ·exact fine8 hs h
 ·exact⟨⟨⟨hs.sm.bars,hs.sm.parts,hs.sm.nbars,hs.sm.nparts⟩,hs.sh⟩,wC lS lS lS lS sO sO⟩
 ·exact absurd h (show¬(90:Int)=0 by decide)
end
theorem Bl {s:Sc} {o:aH} (hs:s.fine) (ho:o.fine) (h:(dA s o).1=0):Bj (dA s o):=by
 unfold dA at h ⊢
 split at h
 ·rename_i h1
  rw[if_pos h1]
  split at h
  ·rename_i h2
   rw[if_pos h2]
   have:=aPx hs ho (mO h1) h2
   exact⟨this.s,this.o⟩
  ·rename_i h2;exact absurd h h2
 ·rename_i h1;exact absurd h h1
end Go.Proofs.Pv
