/-
Layer 9's edits: events give way.
Conditions: none but those that each statement names.
-/
import Derived.Test.YtlcnbhiklpfpjaaGreatDoorC09l
import Derived.Test.YtlcnbhiklpfpjaaGreatDoorC08l
set_option linter.unusedVariables false
set_option linter.unusedSimpArgs false
set_option maxRecDepth 100000
set_option maxHeartbeats 16000000
namespace Go.Proofs.Pv
open Go Go.Proofs
theorem Jl {R:List Nat}:hkeep R []=[]:=rfl
theorem Fj {R:List Nat} {k:Nat} {b:Option aI} {h:DH}:hkeep R ((k,b)::h)=if R.contains k=true then hkeep R h else(k,b)::hkeep R h:=by
 simp only[hkeep,List.filter_cons]
 by_cases hk:R.contains k=true<;>simp [hk]
theorem aSi {k:Nat}:[23,164].contains k=(decide (k=23)||decide (k=164)):=by simp [List.contains_cons]
theorem aOr {k:Nat}:[23].contains k=decide (k=23):=by simp [List.contains_cons]
def xB (s:Sc) (o:aH) (B0 B1 B2 B3 B4 B5:aI) (j0 b0 v0 a n:Nat) (CE VO:List AV) (vo:Vo):List (Nat×aI):=
 [(80,.cells [.int .i64 (j0:Nat),.int .i64 (b0:Nat),.int .i64 (v0:Nat),.int .i64 (a:Nat)]),(30,B0),(9,B1),(3,B2),(2,B3),(1,B4),(0,B5),
  (28,.cells [.str s.title,.sl 14 (s.bars.map Ba.av) .none,.msl 20 0 s.parts.length 5,.int .i64 1,.int .i64 (j0:Nat),.int .i64 (b0:Nat),.int .i64 (v0:Nat),.int .i64 (a:Nat),.int .i64 (n:Nat),.sl 9 (o.events.map Ev.av) .none,.sl 14 (o.bars.map Ba.av) .none,.sl 1 (o.cells.map dM) .none,.sl 1 (o.dyns.map dV) .none,.int .i64 o.steps,.int .i64 o.halves,.str o.text,.int .i64 0,.int .i64 (j0:Nat),.int .i64 (b0:Nat),.int .i64 (v0:Nat),.int .i64 (a:Nat),.int .i64 (o.events.length:Nat),.sl 9 (((vo.l.drop a).take n).map Ev.av) .none,.sl 14 [] .full,.sl 1 [] .full,.sl 1 [] .full,.int .i64 0,.int .i64 0,.str ⟨#[]⟩]),
  (20,.cells (aZ (lC 21 s.parts j0) s.parts.length)),(21,.cells CE),(22,.cells (splice VO v0 [.msl 183 0 (fZ vo.l a n o.events).length 9])),(183,.cells ((fZ vo.l a n o.events).flatMap Ev.cells))]
theorem Jm {f:Nat->Option Nat} {k:Nat}:AV.ren f (.sl k [] .mut)= .sl k [] .mut:=rfl
theorem ev_is (s:Sc) (o:aH) (B0 B1 B2 B3 B4 B5:aI) (j0 b0 v0 a n:Nat) (CE VO:List AV) (cl vl:Nat) (vo:Vo) (hj:j0<s.parts.length) (hbb:b0<s.bars.length) (hb0:b0<cl) (hv0:v0<vl) (hcl:(s.parts.getD j0 pa0).cells.length=cl)
  (hq1:CE.length=cl) (hq2:(List.drop b0 CE).head?=some (.msl 22 0 vl 1)) (hv1:VO.length=vl) (hv2:(List.drop v0 VO).head?=some (.msl 23 0 vo.l.length 9))
  (han:a+n<=vo.l.length) (hll:vo.l.length<=1000000) (hol:o.events.length<=1000000) (hos: ∀e∈o.events,e.short) (hsum:vo.l.length+o.events.length+1<=1000000) (hal:a<vo.l.length) (m:Nat) (hm:o.events.length=m+1)
  {F:Fence} (hF:Free F) (hro:F.round=none) {W:World} {K:AV->St->Prop} (hK:K (.int .i64 0) ⟨xB s o B0 B1 B2 B3 B4 B5 j0 b0 v0 a n CE VO vo,203⟩)
  :(OZ F Tryz.prog gl W true 2).call 20 [.ptr 28 0] K ⟨[(30,B0),(9,B1),(3,B2),(2,B3),(1,B4),(0,B5),(28,.cells ([.str s.title,.sl 14 (s.bars.map Ba.av) .none,.msl 20 0 s.parts.length 5,.int .i64 1,.int .i64 (j0:Nat),.int .i64 (b0:Nat),.int .i64 (v0:Nat),.int .i64 (a:Nat),.int .i64 (n:Nat),.sl 9 (o.events.map Ev.av) .none,.sl 14 (o.bars.map Ba.av) .none,.sl 1 (o.cells.map dM) .none,.sl 1 (o.dyns.map dV) .none,.int .i64 o.steps,.int .i64 o.halves,.str o.text]++rC)),(20,.cells (aZ (lC 21 s.parts j0) s.parts.length)),(21,.cells CE),(22,.cells VO),(23,.cells (vo.l.flatMap Ev.cells))],72⟩:=by
 have hcell:=Gh s (.int .i64 1) (v0:Nat) (a:Nat) j0 (.int .i64 (n:Nat):: .sl 9 (o.events.map Ev.av) .none:: .sl 14 (o.bars.map Ba.av) .none:: .sl 1 (o.cells.map dM) .none:: .sl 1 (o.dyns.map dV) .none:: .int .i64 o.steps:: .int .i64 o.halves:: .str o.text::rC) CE b0 hj hbb (by rw[hcl];exact hb0)
 have k1:b0<=cl:=by omega
 have k2:1<=cl - b0:=by omega
 have k3:v0<=vl:=by omega
 have k4:1<=vl - v0:=by omega
 have k9:v0+1<=vl:=by omega
 have k5:((v0:Nat):Int)< ((vl:Nat):Int):=by omega
 have k6:((a:Nat):Int)<=((a+n:Nat):Int):=by omega
 have k7:((a+n:Nat):Int)<=((vo.l.length:Nat):Int):=by omega
 have hw:IntKind.i64.wrap (((a:Nat):Int)+((n:Nat):Int))=((a+n:Nat):Int):=by rw[wrap_in (by omega)];rfl
 have hsub:a+n - a=n:=by omega
 have hev:=qM o.events hol hos
 simp only[rC,List.cons_append,List.nil_append]
 have k8:((a:Nat):Int)< ((vo.l.length:Nat):Int):=by omega
 rw[hm] at hev
 simp only[dY,bJ] at hev
 (refine iI hF hro mix names 2 (fn:=Tryz.f20) Tryz.func20 rfl ?_;simp only[Tryz.ntmps20,Tryz.results20,aJ,Nat.reduceAdd,Nat.reduceSub])
 repeat' (first
  |simp -implicitDefEqProofs only[↓reduceIte,aA,aC,facts,Nat.reduceAdd,Nat.reduceEqDiff,Nat.reduceLeDiff,List.flatMap_cons,List.flatMap_nil,AV.cells,Option.map_none,AV.one,bnd,nC,eX,fH,aK,aN,gB,nG,Fj,Jl,aSi,List.length_drop,Int.natCast_nonneg,bF,aU,aV,dB,aW, *]
  |((with_reducible refine dG 48 ?_);refine bW (iF _ _ (by omega)) (rfl) ?_)
  |((with_reducible refine dG 49 ?_);refine bW (Tz _ _ _ (by omega) (by omega)) (rfl) ?_)
  |((with_reducible refine dG 50 ?_);refine gV [23] _ (Tv vo.l hll a n han) (qF ⟨⟨rfl,rfl⟩,trivial⟩) ?_)
  |((with_reducible refine dG 51 ?_);refine kK [23,164] rfl (aNv hF hro vo.l o.events a n m hm han hsum) rfl (by show 183<=184;decide) ?_)
  |((with_reducible refine dG 52 ?_);refine kR hF hro hev (rfl) ?_)
  |((with_reducible refine dG 47 ?_);refine gV [28,20,21] _ hcell (qF ⟨⟨rfl,rfl⟩,⟨rfl,rfl⟩,⟨rfl,rfl⟩,trivial⟩) ?_)
  |((with_reducible refine aO ?_);refine bM (by decide+kernel) ?_)
  |((with_reducible refine dP ?_ ?_);· decide+kernel))
 rw[xB,hm] at hK
 exact hK
theorem ev_iz (s:Sc) (o:aH) (B0 B1 B2 B3 B4 B5:aI) (j0 b0 v0 a n:Nat) (CE VO:List AV) (cl vl:Nat) (vo:Vo) (hj:j0<s.parts.length) (hbb:b0<s.bars.length) (hb0:b0<cl) (hv0:v0<vl) (hcl:(s.parts.getD j0 pa0).cells.length=cl)
  (hq1:CE.length=cl) (hq2:(List.drop b0 CE).head?=some (.msl 22 0 vl 1)) (hv1:VO.length=vl) (hv2:(List.drop v0 VO).head?=some (.msl 23 0 vo.l.length 9))
  (han:a+n<=vo.l.length) (hll:vo.l.length<=1000000) (hol:o.events.length<=1000000) (hos: ∀e∈o.events,e.short) (hsum:vo.l.length+o.events.length+1<=1000000) (hal:a<vo.l.length) (hm:o.events.length=0)
  {F:Fence} (hF:Free F) (hro:F.round=none) {W:World} {K:AV->St->Prop} (hK:K (.int .i64 0) ⟨xB s o B0 B1 B2 B3 B4 B5 j0 b0 v0 a n CE VO vo,203⟩)
  :(OZ F Tryz.prog gl W true 2).call 20 [.ptr 28 0] K ⟨[(30,B0),(9,B1),(3,B2),(2,B3),(1,B4),(0,B5),(28,.cells ([.str s.title,.sl 14 (s.bars.map Ba.av) .none,.msl 20 0 s.parts.length 5,.int .i64 1,.int .i64 (j0:Nat),.int .i64 (b0:Nat),.int .i64 (v0:Nat),.int .i64 (a:Nat),.int .i64 (n:Nat),.sl 9 (o.events.map Ev.av) .none,.sl 14 (o.bars.map Ba.av) .none,.sl 1 (o.cells.map dM) .none,.sl 1 (o.dyns.map dV) .none,.int .i64 o.steps,.int .i64 o.halves,.str o.text]++rC)),(20,.cells (aZ (lC 21 s.parts j0) s.parts.length)),(21,.cells CE),(22,.cells VO),(23,.cells (vo.l.flatMap Ev.cells))],72⟩:=by
 have hcell:=Gh s (.int .i64 1) (v0:Nat) (a:Nat) j0 (.int .i64 (n:Nat):: .sl 9 (o.events.map Ev.av) .none:: .sl 14 (o.bars.map Ba.av) .none:: .sl 1 (o.cells.map dM) .none:: .sl 1 (o.dyns.map dV) .none:: .int .i64 o.steps:: .int .i64 o.halves:: .str o.text::rC) CE b0 hj hbb (by rw[hcl];exact hb0)
 have k1:b0<=cl:=by omega
 have k2:1<=cl - b0:=by omega
 have k3:v0<=vl:=by omega
 have k4:1<=vl - v0:=by omega
 have k9:v0+1<=vl:=by omega
 have k5:((v0:Nat):Int)< ((vl:Nat):Int):=by omega
 have k6:((a:Nat):Int)<=((a+n:Nat):Int):=by omega
 have k7:((a+n:Nat):Int)<=((vo.l.length:Nat):Int):=by omega
 have hw:IntKind.i64.wrap (((a:Nat):Int)+((n:Nat):Int))=((a+n:Nat):Int):=by rw[wrap_in (by omega)];rfl
 have hsub:a+n - a=n:=by omega
 have hev:=qM o.events hol hos
 simp only[rC,List.cons_append,List.nil_append]
 have k8:((a:Nat):Int)< ((vo.l.length:Nat):Int):=by omega
 rw[hm] at hev
 simp only[aX,aY] at hev
 (refine iI hF hro mix names 2 (fn:=Tryz.f20) Tryz.func20 rfl ?_;simp only[Tryz.ntmps20,Tryz.results20,aJ,Nat.reduceAdd,Nat.reduceSub])
 repeat' (first
  |simp -implicitDefEqProofs only[↓reduceIte,aA,aC,facts,Nat.reduceAdd,Nat.reduceEqDiff,Nat.reduceLeDiff,List.flatMap_cons,List.flatMap_nil,AV.cells,Option.map_none,AV.one,bnd,Jm,fH,aN,nG,Fj,Jl,aOr,List.length_drop,Int.natCast_nonneg,bF,aU,aV,dB,aW, *]
  |((with_reducible refine dG 48 ?_);refine bW (iF _ _ (by omega)) (rfl) ?_)
  |((with_reducible refine dG 49 ?_);refine bW (Tz _ _ _ (by omega) (by omega)) (rfl) ?_)
  |((with_reducible refine dG 50 ?_);refine gV [23] _ (Tv vo.l hll a n han) (qF ⟨⟨rfl,rfl⟩,trivial⟩) ?_)
  |((with_reducible refine dG 51 ?_);refine kK [23] rfl (aNw hF hro vo.l o.events a n hm han hsum) rfl (by show 183<=184;decide) ?_)
  |((with_reducible refine dG 52 ?_);refine kR hF hro hev (rfl) ?_)
  |((with_reducible refine dG 47 ?_);refine gV [28,20,21] _ hcell (qF ⟨⟨rfl,rfl⟩,⟨rfl,rfl⟩,⟨rfl,rfl⟩,trivial⟩) ?_)
  |((with_reducible refine aO ?_);refine bM (by decide+kernel) ?_)
  |((with_reducible refine dP ?_ ?_);· decide+kernel))
 rw[xB,hm] at hK
 exact hK
theorem ev_es (s:Sc) (o:aH) (B0 B1 B2 B3 B4 B5:aI) (j0 b0 v0 a n:Nat) (CE VO:List AV) (cl vl:Nat) (vo:Vo) (hj:j0<s.parts.length) (hbb:b0<s.bars.length) (hb0:b0<cl) (hv0:v0<vl) (hcl:(s.parts.getD j0 pa0).cells.length=cl)
  (hq1:CE.length=cl) (hq2:(List.drop b0 CE).head?=some (.msl 22 0 vl 1)) (hv1:VO.length=vl) (hv2:(List.drop v0 VO).head?=some (.msl 23 0 vo.l.length 9))
  (han:a+n<=vo.l.length) (hll:vo.l.length<=1000000) (hol:o.events.length<=1000000) (hos: ∀e∈o.events,e.short) (hsum:vo.l.length+o.events.length+1<=1000000) (hal:vo.l.length<=a) (m:Nat) (hm:o.events.length=m+1)
  {F:Fence} (hF:Free F) (hro:F.round=none) {W:World} {K:AV->St->Prop} (hK:K (.int .i64 0) ⟨xB s o B0 B1 B2 B3 B4 B5 j0 b0 v0 a n CE VO vo,203⟩)
  :(OZ F Tryz.prog gl W true 2).call 20 [.ptr 28 0] K ⟨[(30,B0),(9,B1),(3,B2),(2,B3),(1,B4),(0,B5),(28,.cells ([.str s.title,.sl 14 (s.bars.map Ba.av) .none,.msl 20 0 s.parts.length 5,.int .i64 1,.int .i64 (j0:Nat),.int .i64 (b0:Nat),.int .i64 (v0:Nat),.int .i64 (a:Nat),.int .i64 (n:Nat),.sl 9 (o.events.map Ev.av) .none,.sl 14 (o.bars.map Ba.av) .none,.sl 1 (o.cells.map dM) .none,.sl 1 (o.dyns.map dV) .none,.int .i64 o.steps,.int .i64 o.halves,.str o.text]++rC)),(20,.cells (aZ (lC 21 s.parts j0) s.parts.length)),(21,.cells CE),(22,.cells VO),(23,.cells (vo.l.flatMap Ev.cells))],72⟩:=by
 have hcell:=Gh s (.int .i64 1) (v0:Nat) (a:Nat) j0 (.int .i64 (n:Nat):: .sl 9 (o.events.map Ev.av) .none:: .sl 14 (o.bars.map Ba.av) .none:: .sl 1 (o.cells.map dM) .none:: .sl 1 (o.dyns.map dV) .none:: .int .i64 o.steps:: .int .i64 o.halves:: .str o.text::rC) CE b0 hj hbb (by rw[hcl];exact hb0)
 have k1:b0<=cl:=by omega
 have k2:1<=cl - b0:=by omega
 have k3:v0<=vl:=by omega
 have k4:1<=vl - v0:=by omega
 have k9:v0+1<=vl:=by omega
 have k5:((v0:Nat):Int)< ((vl:Nat):Int):=by omega
 have k6:((a:Nat):Int)<=((a+n:Nat):Int):=by omega
 have k7:((a+n:Nat):Int)<=((vo.l.length:Nat):Int):=by omega
 have hw:IntKind.i64.wrap (((a:Nat):Int)+((n:Nat):Int))=((a+n:Nat):Int):=by rw[wrap_in (by omega)];rfl
 have hsub:a+n - a=n:=by omega
 have hev:=qM o.events hol hos
 simp only[rC,List.cons_append,List.nil_append]
 have hn:n=0:=by omega
 subst hn
 have k8: ¬((a:Nat):Int)< ((vo.l.length:Nat):Int):=by omega
 simp only[Nat.add_zero] at k6 k7 hw han
 have hw0:IntKind.i64.wrap (((a:Nat):Int)+0)=((a:Nat):Int):=by rw[wrap_in (by omega),Int.add_zero]
 rw[hm] at hev
 simp only[dY,bJ] at hev
 (refine iI hF hro mix names 2 (fn:=Tryz.f20) Tryz.func20 rfl ?_;simp only[Tryz.ntmps20,Tryz.results20,aJ,Nat.reduceAdd,Nat.reduceSub])
 repeat' (first
  |simp -implicitDefEqProofs only[↓reduceIte,aA,aC,facts,Nat.reduceAdd,Nat.reduceEqDiff,Nat.reduceLeDiff,List.flatMap_cons,List.flatMap_nil,AV.cells,Option.map_none,AV.one,bnd,nC,eX,fH,aK,aN,gB,nG,Fj,Jl,aSi,List.length_drop,Int.natCast_nonneg,bF,aU,aV,dB,aW, *]
  |((with_reducible refine dG 48 ?_);refine bW (iF _ _ (by omega)) (rfl) ?_)
  |((with_reducible refine dG 49 ?_);refine bW (Tz _ _ _ (by omega) (by omega)) (rfl) ?_)
  |((with_reducible refine dG 50 ?_);refine gV [] _ (Ku []) (qF (hl:=[]) trivial) ?_)
  |((with_reducible refine dG 51 ?_);refine kK [23,164] rfl (aNv hF hro vo.l o.events a 0 m hm han hsum) rfl (by show 183<=184;decide) ?_)
  |((with_reducible refine dG 52 ?_);refine kR hF hro hev (rfl) ?_)
  |((with_reducible refine dG 47 ?_);refine gV [28,20,21] _ hcell (qF ⟨⟨rfl,rfl⟩,⟨rfl,rfl⟩,⟨rfl,rfl⟩,trivial⟩) ?_)
  |((with_reducible refine aO ?_);refine bM (by decide+kernel) ?_)
  |((with_reducible refine dP ?_ ?_);· decide+kernel))
 rw[xB,hm,List.take_zero,List.map_nil] at hK
 exact hK
theorem ev_ez (s:Sc) (o:aH) (B0 B1 B2 B3 B4 B5:aI) (j0 b0 v0 a n:Nat) (CE VO:List AV) (cl vl:Nat) (vo:Vo) (hj:j0<s.parts.length) (hbb:b0<s.bars.length) (hb0:b0<cl) (hv0:v0<vl) (hcl:(s.parts.getD j0 pa0).cells.length=cl)
  (hq1:CE.length=cl) (hq2:(List.drop b0 CE).head?=some (.msl 22 0 vl 1)) (hv1:VO.length=vl) (hv2:(List.drop v0 VO).head?=some (.msl 23 0 vo.l.length 9))
  (han:a+n<=vo.l.length) (hll:vo.l.length<=1000000) (hol:o.events.length<=1000000) (hos: ∀e∈o.events,e.short) (hsum:vo.l.length+o.events.length+1<=1000000) (hal:vo.l.length<=a) (hm:o.events.length=0)
  {F:Fence} (hF:Free F) (hro:F.round=none) {W:World} {K:AV->St->Prop} (hK:K (.int .i64 0) ⟨xB s o B0 B1 B2 B3 B4 B5 j0 b0 v0 a n CE VO vo,203⟩)
  :(OZ F Tryz.prog gl W true 2).call 20 [.ptr 28 0] K ⟨[(30,B0),(9,B1),(3,B2),(2,B3),(1,B4),(0,B5),(28,.cells ([.str s.title,.sl 14 (s.bars.map Ba.av) .none,.msl 20 0 s.parts.length 5,.int .i64 1,.int .i64 (j0:Nat),.int .i64 (b0:Nat),.int .i64 (v0:Nat),.int .i64 (a:Nat),.int .i64 (n:Nat),.sl 9 (o.events.map Ev.av) .none,.sl 14 (o.bars.map Ba.av) .none,.sl 1 (o.cells.map dM) .none,.sl 1 (o.dyns.map dV) .none,.int .i64 o.steps,.int .i64 o.halves,.str o.text]++rC)),(20,.cells (aZ (lC 21 s.parts j0) s.parts.length)),(21,.cells CE),(22,.cells VO),(23,.cells (vo.l.flatMap Ev.cells))],72⟩:=by
 have hcell:=Gh s (.int .i64 1) (v0:Nat) (a:Nat) j0 (.int .i64 (n:Nat):: .sl 9 (o.events.map Ev.av) .none:: .sl 14 (o.bars.map Ba.av) .none:: .sl 1 (o.cells.map dM) .none:: .sl 1 (o.dyns.map dV) .none:: .int .i64 o.steps:: .int .i64 o.halves:: .str o.text::rC) CE b0 hj hbb (by rw[hcl];exact hb0)
 have k1:b0<=cl:=by omega
 have k2:1<=cl - b0:=by omega
 have k3:v0<=vl:=by omega
 have k4:1<=vl - v0:=by omega
 have k9:v0+1<=vl:=by omega
 have k5:((v0:Nat):Int)< ((vl:Nat):Int):=by omega
 have k6:((a:Nat):Int)<=((a+n:Nat):Int):=by omega
 have k7:((a+n:Nat):Int)<=((vo.l.length:Nat):Int):=by omega
 have hw:IntKind.i64.wrap (((a:Nat):Int)+((n:Nat):Int))=((a+n:Nat):Int):=by rw[wrap_in (by omega)];rfl
 have hsub:a+n - a=n:=by omega
 have hev:=qM o.events hol hos
 simp only[rC,List.cons_append,List.nil_append]
 have hn:n=0:=by omega
 subst hn
 have k8: ¬((a:Nat):Int)< ((vo.l.length:Nat):Int):=by omega
 simp only[Nat.add_zero] at k6 k7 hw han
 have hw0:IntKind.i64.wrap (((a:Nat):Int)+0)=((a:Nat):Int):=by rw[wrap_in (by omega),Int.add_zero]
 rw[hm] at hev
 simp only[aX,aY] at hev
 (refine iI hF hro mix names 2 (fn:=Tryz.f20) Tryz.func20 rfl ?_;simp only[Tryz.ntmps20,Tryz.results20,aJ,Nat.reduceAdd,Nat.reduceSub])
 repeat' (first
  |simp -implicitDefEqProofs only[↓reduceIte,aA,aC,facts,Nat.reduceAdd,Nat.reduceEqDiff,Nat.reduceLeDiff,List.flatMap_cons,List.flatMap_nil,AV.cells,Option.map_none,AV.one,bnd,Jm,fH,aN,nG,Fj,Jl,aOr,List.length_drop,Int.natCast_nonneg,bF,aU,aV,dB,aW, *]
  |((with_reducible refine dG 48 ?_);refine bW (iF _ _ (by omega)) (rfl) ?_)
  |((with_reducible refine dG 49 ?_);refine bW (Tz _ _ _ (by omega) (by omega)) (rfl) ?_)
  |((with_reducible refine dG 50 ?_);refine gV [] _ (Ku []) (qF (hl:=[]) trivial) ?_)
  |((with_reducible refine dG 51 ?_);refine kK [23] rfl (aNw hF hro vo.l o.events a 0 hm han hsum) rfl (by show 183<=184;decide) ?_)
  |((with_reducible refine dG 52 ?_);refine kR hF hro hev (rfl) ?_)
  |((with_reducible refine dG 47 ?_);refine gV [28,20,21] _ hcell (qF ⟨⟨rfl,rfl⟩,⟨rfl,rfl⟩,⟨rfl,rfl⟩,trivial⟩) ?_)
  |((with_reducible refine aO ?_);refine bM (by decide+kernel) ?_)
  |((with_reducible refine dP ?_ ?_);· decide+kernel))
 rw[xB,hm,List.take_zero,List.map_nil] at hK
 exact hK
theorem Xe (s:Sc) (o:aH) (B0 B1 B2 B3 B4 B5:aI) (j0 b0 v0 a n:Nat) (CE VO:List AV) (cl vl:Nat) (vo:Vo) (hj:j0<s.parts.length) (hbb:b0<s.bars.length) (hb0:b0<cl) (hv0:v0<vl) (hcl:(s.parts.getD j0 pa0).cells.length=cl)
  (hq1:CE.length=cl) (hq2:(List.drop b0 CE).head?=some (.msl 22 0 vl 1)) (hv1:VO.length=vl) (hv2:(List.drop v0 VO).head?=some (.msl 23 0 vo.l.length 9))
  (han:a+n<=vo.l.length) (hll:vo.l.length<=1000000) (hol:o.events.length<=1000000) (hos: ∀e∈o.events,e.short) (hsum:vo.l.length+o.events.length+1<=1000000)
  {F:Fence} (hF:Free F) (hro:F.round=none) {W:World} {K:AV->St->Prop} (hK:K (.int .i64 0) ⟨xB s o B0 B1 B2 B3 B4 B5 j0 b0 v0 a n CE VO vo,203⟩)
  :(OZ F Tryz.prog gl W true 2).call 20 [.ptr 28 0] K ⟨[(30,B0),(9,B1),(3,B2),(2,B3),(1,B4),(0,B5),(28,.cells ([.str s.title,.sl 14 (s.bars.map Ba.av) .none,.msl 20 0 s.parts.length 5,.int .i64 1,.int .i64 (j0:Nat),.int .i64 (b0:Nat),.int .i64 (v0:Nat),.int .i64 (a:Nat),.int .i64 (n:Nat),.sl 9 (o.events.map Ev.av) .none,.sl 14 (o.bars.map Ba.av) .none,.sl 1 (o.cells.map dM) .none,.sl 1 (o.dyns.map dV) .none,.int .i64 o.steps,.int .i64 o.halves,.str o.text]++rC)),(20,.cells (aZ (lC 21 s.parts j0) s.parts.length)),(21,.cells CE),(22,.cells VO),(23,.cells (vo.l.flatMap Ev.cells))],72⟩:=by
 rcases Nat.lt_or_ge a vo.l.length with hal|hal
 ·rcases hm:o.events.length with _|m
  ·exact ev_iz s o B0 B1 B2 B3 B4 B5 j0 b0 v0 a n CE VO cl vl vo hj hbb hb0 hv0 hcl hq1 hq2 hv1 hv2 han hll hol hos hsum hal hm hF hro hK
  ·exact ev_is s o B0 B1 B2 B3 B4 B5 j0 b0 v0 a n CE VO cl vl vo hj hbb hb0 hv0 hcl hq1 hq2 hv1 hv2 han hll hol hos hsum hal m hm hF hro hK
 ·rcases hm:o.events.length with _|m
  ·exact ev_ez s o B0 B1 B2 B3 B4 B5 j0 b0 v0 a n CE VO cl vl vo hj hbb hb0 hv0 hcl hq1 hq2 hv1 hv2 han hll hol hos hsum hal hm hF hro hK
  ·exact ev_es s o B0 B1 B2 B3 B4 B5 j0 b0 v0 a n CE VO cl vl vo hj hbb hb0 hv0 hcl hq1 hq2 hv1 hv2 han hll hol hos hsum hal m hm hF hro hK
def tX (p:Pa) (b0 v0:Nat) (l:List Ev):Pa:= {p with cells:=p.cells.set b0 ((p.cells.getD b0 []).set v0 ⟨l⟩)}
def kW (s:Sc) (j0 b0 v0:Nat) (l:List Ev):Sc:= {s with parts:=s.parts.set j0 (tX (s.parts.getD j0 pa0) b0 v0 l)}
theorem aF4 {α:Type} {l:List α} {i j:Nat} {x d:α}:(l.set i x).getD j d=if j=i/\i<l.length then x else l.getD j d:=by
 simp only[List.getD_eq_getElem?_getD,List.getElem?_set]
 by_cases h:i=j
 ·subst h
  by_cases h2:i<l.length
  ·simp [h2]
  ·simp [h2]
 ·simp [h,show¬j=i from fun e=>h e.symm]
theorem iW {α:Type} {l:List α} {i:Nat} {x d:α} (h:i<l.length):(l.set i x).getD i d=x:=by rw[aF4,if_pos ⟨rfl,h⟩]
theorem getD_set_ne {α:Type} {l:List α} {i j:Nat} {x d:α} (h:j≠i):(l.set i x).getD j d=l.getD j d:=by rw[aF4,if_neg fun e=>h e.1]
section
variable {s:Sc} {j0 b0 v0:Nat} {l:List Ev}
theorem Jn (h:j0<s.parts.length):(kW s j0 b0 v0 l).parts.getD j0 pa0=tX (s.parts.getD j0 pa0) b0 v0 l:=iW h
theorem zG:(kW s j0 b0 v0 l).parts.length=s.parts.length:=List.length_set
theorem Hy {p:Pa}:(tX p b0 v0 l).cells.length=p.cells.length:=List.length_set
theorem Jo {p:Pa} (h:b0<p.cells.length):(tX p b0 v0 l).cells.getD b0 []=(p.cells.getD b0 []).set v0 ⟨l⟩:=iW h
theorem aF5 {q:Nat} (h:j0<s.parts.length):aZ (lC q (kW s j0 b0 v0 l).parts j0) s.parts.length=aZ (lC q s.parts j0) s.parts.length:=by
 refine zT fun i hi=>?_
 by_cases e:i=j0
 ·subst e
  simp only[lC,Jn h,if_true,Hy]
  rfl
 ·have:(kW s j0 b0 v0 l).parts.getD i pa0=s.parts.getD i pa0:=getD_set_ne e
  simp only[lC,this,if_neg e]
theorem aDd {p:Pa} {q:Nat} (h:b0<p.cells.length):aZ (jG q (tX p b0 v0 l).cells b0) p.cells.length=aZ (jG q p.cells b0) p.cells.length:=by
 refine zT fun i hi=>?_
 by_cases e:i=b0
 ·subst e
  simp only[jG,Jo h,if_true,List.length_set]
 ·have:(tX p b0 v0 l).cells.getD i []=p.cells.getD i []:=getD_set_ne e
  simp only[jG,this,if_neg e]
theorem aDe {c:List Vo} {q q':Nat} (h:v0<c.length):splice (aZ (jU q c v0) c.length) v0 [.msl q' 0 l.length 9]=aZ (jU q' (c.set v0 ⟨l⟩) v0) c.length:=by
 have:=Zc (c:=jU q c v0) (k:=1) (fun _=>rfl) (j:=v0) (v:=[.msl q' 0 l.length 9]) rfl h
 rw[Nat.mul_one] at this
 rw[this]
 refine zT fun i hi=>?_
 by_cases e:i=v0
 ·subst e
  simp only[jU,if_true,iW h]
 ·simp only[jU,if_neg e,getD_set_ne e]
theorem aDf {sty:Nat->Bool} {hp:Hp} {d kp qc qv qe q:Nat} (hj:j0<s.parts.length) (hb0:b0< (s.parts.getD j0 pa0).cells.length) (hv0:v0< ((s.parts.getD j0 pa0).cells.getD b0 []).length) (hs1:sty qc=false) (hs2:sty qv=true)
  (h1:hp kp=some (.cells (aZ (lC qc s.parts j0) s.parts.length))) (h2:hp qc=some (.cells (aZ (jG qv (s.parts.getD j0 pa0).cells b0) (s.parts.getD j0 pa0).cells.length)))
  (h3:hp qv=some (.cells (splice (aZ (jU q ((s.parts.getD j0 pa0).cells.getD b0 []) v0) ((s.parts.getD j0 pa0).cells.getD b0 []).length) v0 [.msl qe 0 l.length 9]))) (h4:hp qe=some (.cells (l.flatMap Ev.cells))):
  AV.nowS sty hp (d+5) (.agg [.str s.title,.sl 14 (s.bars.map Ba.av) .none,.msl kp 0 s.parts.length 5])=(kW s j0 b0 v0 l).av:=by
 have e1:=Jn (s:=s) (b0:=b0) (v0:=v0) (l:=l) hj
 have e2:=Jo (v0:=v0) (l:=l) hb0
 have:=aJ7 (sty:=sty) (hp:=hp) (d:=d) (kp:=kp) (qc:=qc) (qv:=qv) (qe:=qe) (kW s j0 b0 v0 l) j0 b0 v0 (by rw[zG];exact hj) (by rw[e1,Hy];exact hb0) (by rw[e1,e2,List.length_set];exact hv0) hs1 hs2
  (by rw[zG,aF5 hj];exact h1) (by rw[e1,Hy,aDd hb0];exact h2)
  (by rw[e1,e2,List.length_set,<-aDe hv0];exact h3) (by rw[e1,e2,iW hv0];exact h4)
 rw[zG] at this
 exact this
theorem aDg (hs:s.small) (hj:j0<s.parts.length) (hb:b0< (s.parts.getD j0 pa0).cells.length) (hv:v0< ((s.parts.getD j0 pa0).cells.getD b0 []).length) (hl:Vo.small ⟨l⟩):(kW s j0 b0 v0 l).small:=by
 refine⟨hs.bars,fun p hp=>?_,hs.nbars,by rw[zG];exact hs.nparts⟩
 rcases List.mem_or_eq_of_mem_set hp with hp|hp
 ·exact hs.parts p hp
 ·subst hp
  have hm:s.parts.getD j0 pa0∈s.parts:=by rw[List.getD_eq_getElem?_getD,List.getElem?_eq_getElem hj];exact List.getElem_mem hj
  have h0:=hs.parts _ hm
  refine⟨fun c hc=>?_,h0.dyns⟩
  rcases List.mem_or_eq_of_mem_set hc with hc|hc
  ·exact h0.voices c hc
  ·subst hc
   have hm2:(s.parts.getD j0 pa0).cells.getD b0 []∈(s.parts.getD j0 pa0).cells:=by rw[List.getD_eq_getElem?_getD (l:=(s.parts.getD j0 pa0).cells),List.getElem?_eq_getElem hb];exact List.getElem_mem hb
   have h1:=h0.voices _ hm2
   refine⟨by rw[List.length_set];exact h1.1,fun v hv'=>?_⟩
   rcases List.mem_or_eq_of_mem_set hv' with hv'|hv'
   ·exact h1.2 v hv'
   ·subst hv';exact hl
end
end Go.Proofs.Pv
