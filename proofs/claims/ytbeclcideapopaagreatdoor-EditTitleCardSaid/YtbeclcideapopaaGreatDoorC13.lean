/-
EditRight: the law answers true for all scores and edits.
Conditions: none but those that each statement names.
-/
import Derived.Test.YtbeclcideapopaaGreatDoorC12
set_option linter.unusedVariables false
set_option linter.unusedSimpArgs false
set_option maxRecDepth 100000
set_option maxHeartbeats 16000000
namespace Go.Proofs.Pv
open Go Go.Proofs
def zeroS:Sc:=⟨⟨#[]⟩,[],[]⟩
theorem aD1 (s:Sc) (o:aJ) (hs:s.fine) (ho:o.fine):((dD s o).1≠0/\(s.checkR.2=0\/(dD s o).1=s.checkR.2)/\rU (dD s o)=errR (dD s o).1)\/((dD s o).1=0/\s.checkR.2=0/\(dD s o).2.1.checkR.2=0/\rU (dD s o)= .tup [(dD s o).2.1.av,(dD s o).2.2.av,.int .i64 0]):=by
 by_cases he:(dD s o).1=0
 ·refine .inr ⟨he,?_⟩
  rw[rU,if_pos he]
  rw[dD] at he ⊢
  split at he
  ·rename_i h1
   rw[if_pos h1]
   split at he
   ·rename_i h2
    rw[if_pos h2]
    exact⟨h1,he,rfl⟩
   ·rename_i h2;exact absurd he h2
  ·rename_i h1;exact absurd he h1
 ·refine .inl ⟨he,?_,by rw[rU,if_neg he]⟩
  by_cases h1:s.checkR.2=0
  ·exact .inl h1
  ·exact .inr (by rw[dD,if_neg h1];rfl)
structure Ah (r:Ans):Prop where
 s:r.2.1.fine
 o:r.2.2.fine
theorem yF {n:Nat} (h:n<=1000000):I64 ((n:Nat):Int):=by unfold I64;omega
theorem sD {k p b v a c st ha:Int} {ev:List Ev} {ba:List Ba} {ce:List (List (List Vo))} {dy:List (List (List Dy))} {t:ByteArray} (h1:(∀e∈ev,e.small)/\ev.length<=400000) (h2:(∀x∈ba,x.short/\x.ok)/\ba.length<=400000)
  (h3:(∀l∈ce,l.length<=400000/\ ∀c∈l,c.length<=1000000/\ ∀v∈c,v.small)/\ce.length<=1000000) (h4:(∀l∈dy,l.length<=400000/\ ∀d∈l,d.length<=1000000/\ ∀t∈d,t.at_.fits)/\dy.length<=1000000) (h5:I64 a) (h6:I64 b):(⟨k,p,b,v,a,c,ev,ba,ce,dy,st,ha,t⟩:aJ).fine:=
 ⟨h1.1,h1.2,h2.1,h2.2,h3.1,h3.2,h4.1,h4.2,h5,h6⟩
theorem kK {α:Type} {p:α->Prop} {n:Nat}:(∀x∈([]:List α),p x)/\([]:List α).length<=n:=⟨(fun _ h=>nomatch h),Nat.zero_le _⟩
theorem aI5 {α:Type} {p:α->Prop} {x:α} {n:Nat} (h:p x) (hn:1<=n):(∀y∈[x],p y)/\[x].length<=n:=⟨(fun y hy=>by simp only[List.mem_singleton] at hy;subst hy;exact h),hn⟩
theorem Jt {α:Type} {l:List α} {i:Nat} {x y:α} (h:y∈l.set i x):y∈l\/y=x:=List.mem_or_eq_of_mem_set h
section
variable {s:Sc} {o:aJ} (hs:s.fine) (ho:o.fine) (hr:Right s)
include hs hr
omit hr in
omit hr in
theorem Ig {j:Nat} {p:Pa} (h:p.small):({s with parts:=s.parts.set j p}:Sc).fine:=⟨Ji hs.sm h,hs.sh⟩
omit hr in
theorem Dw {j:Nat} (hj:j<s.parts.length):(s.parts.getD j pa0).small:=hs.sm.parts _ (getD_mem hj)
theorem Ya {j b:Nat} (hj:j<s.parts.length) (hb:b<s.bars.length): ∀v∈(s.parts.getD j pa0).cells.getD b [],v.small:=by
 have hm:=getD_mem (d:=pa0) hj
 have:=(hr.len _ hm).1
 exact((hs.sm.parts _ hm).voices _ (getD_mem (by omega))).2
theorem aEa {j b:Nat} (hj:j<s.parts.length) (hb:b<s.bars.length):((s.parts.getD j pa0).cells.getD b []).length<=4:=by
 have _:=hs
 have hm:=getD_mem (d:=pa0) hj
 have:=(hr.len _ hm).1
 exact(hr.cell _ hm _ (getD_mem (by omega))).2
include ho
theorem fine1 (h:(zT s o).1=0):Ah (zT s o):=by
 unfold zT at h ⊢
 split
 ·rename_i h1
  obtain⟨⟨⟨p0,p1⟩,b0,b1⟩,⟨v0,v1⟩,h3⟩:=h1
  have hj:o.j<s.parts.length:=by simp only[aJ.j];omega
  have hb:o.b<s.bars.length:=by simp only[aJ.b];omega
  have hv0:o.v< (o.cell s).length:=by simp only[aJ.v];omega
  have hm:=getD_mem (d:=pa0) hj
  have hcl:=(hr.len _ hm).1
  have hbc:o.b< (s.parts.getD o.j pa0).cells.length:=by omega
  have hcm:o.cell s∈(s.parts.getD o.j pa0).cells:=getD_mem hbc
  have hvm:(o.cell s).getD o.v ⟨[]⟩∈o.cell s:=getD_mem hv0
  have hvl:(o.vo s).length<=64:=(hr.vo _ hm _ hcm _ hvm).2
  have hvs:Vo.small ((o.cell s).getD o.v ⟨[]⟩):=((hs.sm.parts _ hm).voices _ hcm).2 _ hvm
  have hes: ∀e∈o.vo s,e.small:=hvs.2
  have hel:=ho.evl
  have hb1:=hr.b1
  refine⟨⟨aCp hs.sm hj hbc hv0 ⟨?_,fun e he=>?_⟩,hs.sh⟩,sD ⟨fun e he=>hes e (List.mem_of_mem_drop (List.mem_of_mem_take he)),?_⟩ kK kK kK (yF (by simp only[aJ.a];omega)) (yF (by omega))⟩
  ·show(jH (o.vo s) o.a o.n o.events).length<=1000000
   simp only[jH,List.length_append,List.length_take,List.length_drop];omega
  ·have he:e∈jH (o.vo s) o.a o.n o.events:=he
   rcases aPc he with h|h
   ·exact hes e h
   ·exact ho.ev e h
  ·rw[List.length_take,List.length_drop];omega
 ·rename_i h1
  rw[if_neg h1] at h
  exact absurd h (show¬(90:Int)=0 by decide)
theorem fine2 (h:(Cf s o).1=0):Ah (Cf s o):=by
 unfold Cf at h ⊢
 split
 ·rename_i h1
  have hb1:=hr.b1
  have hb:o.b<=s.bars.length:=by simp only[aJ.b];omega
  refine⟨⟨Tn hs.sm ho hb (by omega),fun x hx=>?_⟩,sD kK kK kK kK qF (yF (by omega))⟩
  rcases Gz hx with h|h
  ·exact hs.sh x h
  ·exact(ho.ba x h).1
 ·rename_i h1
  rw[if_neg h1] at h
  exact absurd h (show¬(90:Int)=0 by decide)
theorem fine3 (h:(yS s o).1=0):Ah (yS s o):=by
 have _:=ho
 unfold yS at h ⊢
 split
 ·rename_i h1
  have hb1:=hr.b1
  have hp1:=hr.p1
  have hb:o.b+o.n<=s.bars.length:=by simp only[aJ.b,aJ.n];omega
  refine⟨⟨Qj hs.sm hb,fun x hx=>hs.sh x (Ha hx)⟩,sD kK ⟨fun x hx=>⟨hs.sh x (Pj hx),hs.sm.bars x (Pj hx)⟩,?_⟩ ⟨fun l hl=>?_,?_⟩ ⟨fun l hl=>?_,?_⟩ qF (yF (by omega))⟩
  ·simp only[oZ,List.length_take,List.length_drop];omega
  ·obtain⟨p,hp,rfl⟩:=List.mem_map.1 hl
   have:=(hr.len p hp).1
   exact⟨by simp only[oZ,List.length_take,List.length_drop];omega,fun c hc=>(hs.sm.parts p hp).voices c (Pj hc)⟩
  ·rw[List.length_map];omega
  ·obtain⟨p,hp,rfl⟩:=List.mem_map.1 hl
   have:=(hr.len p hp).2
   exact⟨by simp only[oZ,List.length_take,List.length_drop];omega,fun c hc=>(hs.sm.parts p hp).dyns c (Pj hc)⟩
  ·rw[List.length_map];omega
 ·rename_i h1
  rw[if_neg h1] at h
  exact absurd h (show¬(90:Int)=0 by decide)
theorem fine4 (h:(yT s o).1=0):Ah (yT s o):=by
 unfold yT at h ⊢
 split
 ·rename_i h1
  have hb1:=hr.b1
  have hb:o.b<s.bars.length:=by simp only[aJ.b];omega
  have hxm:o.bars.getD 0 ba0∈o.bars:=getD_mem (by omega)
  have hx:=ho.ba _ hxm
  have hym:s.bars.getD o.b ba0∈s.bars:=getD_mem hb
  refine⟨⟨⟨fun y hy=>?_,hs.sm.parts,by simp only[Bz,List.length_set];exact hs.sm.nbars,hs.sm.nparts⟩,fun y hy=>?_⟩,sD kK (aI5 ⟨hs.sh _ hym,hs.sm.bars _ hym⟩ (by decide)) kK kK qF (yF (by omega))⟩
  ·rcases Jt hy with h|rfl
   ·exact hs.sm.bars y h
   ·exact hx.2
  ·rcases Jt hy with h|rfl
   ·exact hs.sh y h
   ·exact hx.1
 ·rename_i h1
  rw[if_neg h1] at h
  exact absurd h (show¬(90:Int)=0 by decide)
theorem fine5 (h:(yU s o).1=0):Ah (yU s o):=by
 unfold yU at h ⊢
 split
 ·rename_i h1
  obtain⟨⟨⟨p0,p1⟩,b0,b1⟩,h2,h3⟩:=h1
  have hb1:=hr.b1
  have hj:o.j<s.parts.length:=by simp only[aJ.j];omega
  have hb:o.b<s.bars.length:=by simp only[aJ.b];omega
  have hm1:o.dyns.getD 0 []∈o.dyns:=getD_mem (by omega)
  have hm2:(o.dyns.getD 0 []).getD 0 []∈o.dyns.getD 0 []:=getD_mem (by omega)
  have hy:=(ho.dy _ hm1).2 _ hm2
  have hp:=Dw hs hj
  have hm:=getD_mem (d:=pa0) hj
  have hdl:=(hr.len _ hm).2
  have hdm:(s.parts.getD o.j pa0).dyns.getD o.b []∈(s.parts.getD o.j pa0).dyns:=getD_mem (by omega)
  refine⟨Ig hs ⟨hp.voices,fun d hd=>?_⟩,sD kK kK kK (aI5 ⟨(show 1<=400000 by decide),fun d hd=>?_⟩ (by decide)) qF (yF (by omega))⟩
  ·rcases Jt hd with h|rfl
   ·exact hp.dyns d h
   ·exact hy
  ·simp only[List.mem_singleton] at hd
   subst hd
   exact hp.dyns _ hdm
 ·rename_i h1
  rw[if_neg h1] at h
  exact absurd h (show¬(90:Int)=0 by decide)
theorem fine6 (h:(xM s o).1=0):Ah (xM s o):=by
 unfold xM at h ⊢
 split
 ·rename_i h1
  obtain⟨⟨⟨p0,p1⟩,b0,b1⟩,⟨v0,v1⟩,h3,h4,h5⟩:=h1
  have hb1:=hr.b1
  have hj:o.j<s.parts.length:=by simp only[aJ.j];omega
  have hb:o.b<s.bars.length:=by simp only[aJ.b];omega
  have hm1:o.cells.getD 0 []∈o.cells:=getD_mem (by omega)
  have hm2:(o.cells.getD 0 []).getD 0 []∈o.cells.getD 0 []:=getD_mem (by omega)
  have hm3:((o.cells.getD 0 []).getD 0 []).getD 0 ⟨[]⟩∈(o.cells.getD 0 []).getD 0 []:=getD_mem (by omega)
  have hy:=((ho.ce _ hm1).2 _ hm2).2 _ hm3
  have hp:=Dw hs hj
  have hcs:=Ya hs hr hj hb
  have hcl:(o.cell s).length<=4:=aEa hs hr hj hb
  have hv:o.v<=(o.cell s).length:=by simp only[aJ.v];omega
  refine⟨Ig hs ⟨fun c hc=>?_,hp.dyns⟩,sD kK kK kK kK qF (yF (by omega))⟩
  rcases Jt hc with h|rfl
  ·exact hp.voices c h
  ·refine⟨by rw[show((s.parts.getD o.j pa0).cells.getD o.b [])=o.cell s from rfl,xQ hv];simp only[List.length_cons,List.length_nil];omega,fun w hw=>?_⟩
   rcases Gz hw with h|h
   ·exact hcs w h
   ·simp only[List.mem_singleton] at h
    subst h;exact hy
 ·rename_i h1
  rw[if_neg h1] at h
  exact absurd h (show¬(90:Int)=0 by decide)
theorem fine7 (h:(uQ s o).1=0):Ah (uQ s o):=by
 have _:=ho
 unfold uQ at h ⊢
 split
 ·rename_i h1
  obtain⟨⟨⟨p0,p1⟩,b0,b1⟩,⟨v0,v1⟩⟩:=h1
  have hb1:=hr.b1
  have hj:o.j<s.parts.length:=by simp only[aJ.j];omega
  have hb:o.b<s.bars.length:=by simp only[aJ.b];omega
  have hp:=Dw hs hj
  have hcs:=Ya hs hr hj hb
  have hcl:(o.cell s).length<=4:=aEa hs hr hj hb
  have hv:o.v< (o.cell s).length:=by simp only[aJ.v];omega
  have hxm:(o.cell s).getD o.v ⟨[]⟩∈o.cell s:=getD_mem hv
  refine⟨Ig hs ⟨fun c hc=>?_,hp.dyns⟩,sD kK kK (aI5 ⟨(show 1<=400000 by decide),fun c hc=>?_⟩ (by decide)) kK qF (yF (by omega))⟩
  ·rcases Jt hc with h|rfl
   ·exact hp.voices c h
   ·exact⟨by rw[show((s.parts.getD o.j pa0).cells.getD o.b [])=o.cell s from rfl,xR (by omega)];omega,fun w hw=>hcs w (Ha hw)⟩
  ·simp only[List.mem_singleton] at hc
   subst hc
   refine⟨(show 1<=1000000 by decide),fun w hw=>?_⟩
   simp only[List.mem_singleton] at hw
   subst hw
   exact hcs _ hxm
 ·rename_i h1
  rw[if_neg h1] at h
  exact absurd h (show¬(90:Int)=0 by decide)
omit ho hr in
theorem fine8 (h:(Fg s o).1=0):Ah (Fg s o):=by
 unfold Fg at h ⊢
 split
 ·rename_i h1
  split
  ·rename_i h2
   have hj:o.j<s.parts.length:=by simp only[aJ.upOk,Bool.and_eq_true,decide_eq_true_eq] at h1;simp only[aJ.j];omega
   have hp:=Dw hs hj
   exact⟨Ig hs (Pa.up_small (st:=o.steps) (ha:=o.halves) hp),sD kK kK kK kK qF qF⟩
  ·refine⟨⟨⟨fun b hb=>?_,fun p hp=>?_,by simp only[wU,List.length_map];exact hs.sm.nbars,by simp only[wU,List.length_map];exact hs.sm.nparts⟩,fun b hb=>?_⟩,sD kK kK kK kK qF qF⟩
   ·obtain⟨b',hb',rfl⟩:=List.mem_map.1 hb
    exact Ba.up_ok (hs.sm.bars b' hb')
   ·obtain⟨p',hp',rfl⟩:=List.mem_map.1 hp
    exact Pa.up_small (hs.sm.parts p' hp')
   ·obtain⟨b',hb',rfl⟩:=List.mem_map.1 hb
    have:=hs.sh b' hb'
    exact⟨this.g,this.e,this.t⟩
 ·rename_i h1
  rw[if_neg h1] at h
  exact absurd h (show¬(90:Int)=0 by decide)
theorem aOz (h:(lW s o).1=0):Ah (lW s o):=by
 unfold lW at h ⊢
 repeat' split
 all_goals simp only[*,if_true,if_false] at h
 ·exact fine1 hs ho hr h
 ·exact fine2 hs ho hr h
 ·exact fine3 hs ho hr h
 ·exact fine4 hs ho hr h
 ·exact fine5 hs ho hr h
 ·exact fine6 hs ho hr h
 ·exact fine7 hs ho hr h
 ·exact fine8 hs h
 ·exact⟨⟨⟨hs.sm.bars,hs.sm.parts,hs.sm.nbars,hs.sm.nparts⟩,hs.sh⟩,sD kK kK kK kK qF qF⟩
 ·exact absurd h (show¬(90:Int)=0 by decide)
end
theorem Vk {s:Sc} {o:aJ} (hs:s.fine) (ho:o.fine) (h:(dD s o).1=0):Ah (dD s o):=by
 unfold dD at h ⊢
 split at h
 ·rename_i h1
  rw[if_pos h1]
  split at h
  ·rename_i h2
   rw[if_pos h2]
   have:=aOz hs ho (mO h1) h2
   exact⟨this.s,this.o⟩
  ·rename_i h2;exact absurd h h2
 ·rename_i h1;exact absurd h h1
end Go.Proofs.Pv
