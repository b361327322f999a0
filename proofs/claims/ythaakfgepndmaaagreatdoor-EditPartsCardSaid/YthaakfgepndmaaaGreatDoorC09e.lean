/-
Layer 9's edits: copies of dynamics, bars, parts and scores.
Conditions: none but those that each statement names.
-/
import Derived.Test.YthaakfgepndmaaaGreatDoorC09a
set_option linter.unusedVariables false
set_option linter.unusedSimpArgs false
set_option maxRecDepth 100000
set_option maxHeartbeats 16000000
namespace Go.Proofs.Pv
open Go Go.Proofs
def fP (d:List Dy):List AV:=[eH d]
theorem Py (l:List (List Dy)) (hl:l.length<=1000000) (hs: ∀d∈l,d.length<=1000000):Own Tryz.prog gl 42 [.sl 1 (l.map eH) .none,.fn 43 [] []] (iM 0 1 l.length) (jE 0 (l.flatMap fP) l.length) 1:=by
  (refine Own.intro 2 mix names (fn:=Tryz.f42) Tryz.func42 rfl fun F hF hro W=>?_;simp only[Tryz.ntmps42,Tryz.results42,aI,Nat.reduceAdd,Nat.reduceSub])
  repeat' (simp -implicitDefEqProofs (disch:=first|assumption|omega) only[aA,aC,facts,Nat.reduceAdd, *])
  refine jO (fD 22 [1,5,8,9,10]) 101 l.length (fun i (_:Unit)=>⟨[.ud,.fn 43 [] [],.ud,.ud,.ud,iM 100 1 i,.ud,.ud,.sl 1 (l.map eH) .none,.int .i64 (l.length:Nat),.int .i64 (i:Nat),.ud,.ud,.ud,.ud,.ud,.ud,.ud,.ud,.ud,.ud,.ud],[]⟩) (fun i _=>⟨hC (jE 100 ((l.take i).flatMap fP) i),101⟩) (fun i _=>i<1000001) ⟨(),by omega,bJ 5 [],gK 5 [],dG.of_fit rfl rfl rfl,aG.nil,rfl,rfl⟩ ?_
  rintro i x hi hi2
  rcases Nat.lt_or_ge i l.length with hlt|hge
  · have hd:=hs l[i] (List.getElem_mem hlt)
    rcases i with _|i
    · simp only[iM,jE,hC,List.map_nil]
      repeat' (first
    |simp -implicitDefEqProofs (disch:=first|assumption|omega) only[aA,aC,facts,if_pos,Nat.reduceAdd,Nat.reduceLT,Nat.reduceLeDiff,Int.reduceLE,Int.reduceAdd,gB,cO,List.flatMap_cons,List.flatMap_nil,AV.cells,true_or,AV.one,wrap_in,List.getElem?_eq_getElem,eH,aV, *]
    |((with_reducible refine aF (fun _=>?_) (fun _=>?_))<;>try omega)
    | ((with_reducible refine aS 43 ?_);refine PC.useZ hF (Px _ hd) (rfl) fun v hv=>?_;subst hv))
      refine dM 0 () hlt (by omega) (by omega) (bJ 5 [(109,100)]) (gK 5 [(109,100)]) (dG.of_fit rfl rfl rfl) ?_ rfl rfl
      refine aG.cons 109 rfl rfl ?_ aG.nil
      rw[jQ hlt];rfl
    · have hfl:((l.take (i+1)).flatMap fP).length=(i+1):=by rw[flat_length (k:=1) (fun _=>rfl),List.length_take];omega
      simp only[iM,jE,hC,List.map_cons,List.map_nil]
      repeat' (first
    |simp -implicitDefEqProofs (disch:=first|assumption|omega) only[aA,aC,facts,if_pos,Nat.reduceAdd,Nat.reduceLT,Nat.reduceLeDiff,gB,cO,List.flatMap_cons,List.flatMap_nil,AV.cells,AV.one,wrap_in,List.getElem?_eq_getElem,eH,aV, *]
    |((with_reducible refine aF (fun _=>?_) (fun _=>?_))<;>try omega)
    | ((with_reducible refine aS 43 ?_);refine PC.useZ hF (Px _ hd) (rfl) fun v hv=>?_;subst hv))
      refine dM (i+1) () hlt (by omega) (by omega) (bJ 5 [(109,100)]) (gK 5 [(109,100)]) (dG.of_fit rfl rfl rfl) ?_ rfl rfl
      refine aG.cons 109 rfl rfl ?_ aG.nil
      rw[jQ hlt,List.map_append]
      rw[jK (c:=fP) (fun _=>rfl)];rfl
  · have:i=l.length:=by omega
    subst this
    repeat' (first
    |simp -implicitDefEqProofs (disch:=first|assumption|omega) only[aA,aC,facts,Nat.reduceAdd,aV, *]
    |((with_reducible refine aF (fun _=>?_) (fun _=>?_))<;>try omega))
    rw[List.take_length]
    exact La fun f=>jK (c:=fP) (fun _=>rfl) l
theorem aOk (l:List (List Dy)) (hl:l.length<=1000000) (hs: ∀d∈l,d.length<=1000000):PC Tryz.prog gl 42 [.sl 1 (l.map eH) .none,.fn 43 [] []] (fun v=>v= .sl 1 (l.map eH) .none):=by
 refine PC.of_ownS (sty:=fun _=>false) (Py l hl hs) 2 ?_
 cases l with
 |nil=>rfl
 |cons x l=>
  refine(oO (cs:=(x::l).flatMap fP) rfl (by decide) (lL (c:=fP) (fun _=>rfl) _) (by rw[flat_length (k:=1) (fun _=>rfl)];simp) (kS (fun _=>rfl) _)).trans ?_
  rw[show((x::l).flatMap fP)=(x::l).map eH from nO (c:=eH) (x::l),Bool.or_false,show(!(Nat.beq 1 1))=false from rfl]
  have:=yN (c:=eH) (x::l)
  simp only[List.length_cons] at this
  rw[this]
def Ba.cells (b:Ba):List AV:=b.av.cells
structure Ba.short (b:Ba):Prop where
 g:b.meter.groups.length<=1000000
 e:b.turn.endings.length<=1000000
 t:b.tempos.length<=1000000
theorem Pz (l:List Ba) (hl:l.length<=1000000) (hs: ∀b∈l,b.short):Own Tryz.prog gl 37 [.sl 14 (l.map Ba.av) .none] (iM 0 14 l.length) (jE 0 (l.flatMap Ba.cells) l.length) 1:=by
  (refine Own.intro 2 mix names (fn:=Tryz.f37) Tryz.func37 rfl fun F hF hro W=>?_;simp only[Tryz.ntmps37,Tryz.results37,aI,Nat.reduceAdd,Nat.reduceSub])
  repeat' (simp -implicitDefEqProofs (disch:=first|assumption|omega) only[aA,aC,facts,Nat.reduceAdd, *])
  refine jO (fD 34 [3,6,7,8]) 101 l.length (fun i (_:Unit)=>⟨[.ud,.ud,.ud,iM 100 14 i,.ud,.ud,.sl 14 (l.map Ba.av) .none,.int .i64 (l.length:Nat),.int .i64 (i:Nat),.ud,.ud,.ud,.ud,.ud,.ud,.ud,.ud,.ud,.ud,.ud,.ud,.ud,.ud,.ud,.ud,.ud,.ud,.ud,.ud,.ud,.ud,.ud,.ud,.ud],[]⟩) (fun i _=>⟨hC (jE 100 ((l.take i).flatMap Ba.cells) i),101⟩) (fun i _=>i<1000001) ⟨(),by omega,bJ 5 [],gK 5 [],dG.of_fit rfl rfl rfl,aG.nil,rfl,rfl⟩ ?_
  rintro i x hi hi2
  rcases Nat.lt_or_ge i l.length with hlt|hge
  · have he:=hs l[i] (List.getElem_mem hlt)
    have hg:=he.g
    have hen:=he.e
    have htm:=he.t
    rcases i with _|i
    · simp only[iM,jE,hC,List.map_nil]
      repeat' (first
    |simp -implicitDefEqProofs (disch:=first|assumption|omega) only[aA,aC,facts,if_pos,if_neg,Nat.reduceAdd,Nat.reduceEqDiff,Nat.reduceLT,Nat.reduceLeDiff,Int.reduceLE,Int.reduceAdd,gB,cO,List.flatMap_cons,List.flatMap_nil,AV.cells,true_or,AV.one,wrap_in,List.getElem?_eq_getElem,Ba.av,aV, *]
    |((with_reducible refine w_at 81 ?_);refine iU (rO _ hg) (rfl) ?_)
    |((with_reducible refine w_at 81 ?_);refine iU (rO _ hen) (rfl) ?_)
    |((with_reducible refine w_at 82 ?_);refine iU (aAb _ htm) (rfl) ?_)
    |((with_reducible refine aF (fun _=>?_) (fun _=>?_))<;>try omega)
    |((with_reducible refine aN ?_);refine jD (by decide+kernel) ?_)
    | ((with_reducible refine dN ?_ ?_);· decide+kernel))
      refine dM (0) () hlt (by omega) (by omega) (bJ 5 [(128,100)]) (gK 5 [(128,100)]) (dG.of_fit rfl rfl rfl) ?_ rfl rfl
      refine aG.cons 128 rfl rfl ?_ aG.nil
      rw[jQ hlt];rfl
    · have hfl:((l.take (i+1)).flatMap Ba.cells).length=(i+1)*14:=by rw[flat_length (k:=14) (fun _=>rfl),List.length_take];omega
      simp only[iM,jE,hC,List.map_cons,List.map_nil]
      repeat' (first
    |simp -implicitDefEqProofs (disch:=first|assumption|omega) only[aA,aC,facts,if_pos,if_neg,Nat.reduceAdd,Nat.reduceEqDiff,Nat.reduceLT,Nat.reduceLeDiff,gB,cO,List.flatMap_cons,List.flatMap_nil,AV.cells,AV.one,wrap_in,List.getElem?_eq_getElem,Ba.av,aV, *]
    |((with_reducible refine w_at 81 ?_);refine iU (rO _ hg) (rfl) ?_)
    |((with_reducible refine w_at 81 ?_);refine iU (rO _ hen) (rfl) ?_)
    |((with_reducible refine w_at 82 ?_);refine iU (aAb _ htm) (rfl) ?_)
    |((with_reducible refine aF (fun _=>?_) (fun _=>?_))<;>try omega)
    |((with_reducible refine aN ?_);refine jD (by decide+kernel) ?_)
    | ((with_reducible refine dN ?_ ?_);· decide+kernel))
      refine dM (i+1) () hlt (by omega) (by omega) (bJ 5 [(128,100)]) (gK 5 [(128,100)]) (dG.of_fit rfl rfl rfl) ?_ rfl rfl
      refine aG.cons 128 rfl rfl ?_ aG.nil
      rw[jQ hlt,List.map_append]
      rw[jK (c:=Ba.cells) (fun _=>rfl)];rfl
  · have:i=l.length:=by omega
    subst this
    repeat' (first
    |simp -implicitDefEqProofs (disch:=first|assumption|omega) only[aA,aC,facts,Nat.reduceAdd,aV, *]
    |((with_reducible refine aF (fun _=>?_) (fun _=>?_))<;>try omega))
    rw[List.take_length]
    exact La fun f=>jK (c:=Ba.cells) (fun _=>rfl) l
theorem aC5 (l:List Ba) (hl:l.length<=1000000) (hs: ∀b∈l,b.short):PC Tryz.prog gl 37 [.sl 14 (l.map Ba.av) .none] (fun v=>v= .sl 14 (l.map Ba.av) .none):=by
 refine PC.of_ownS (sty:=fun _=>false) (Pz l hl hs) 2 ?_
 cases l with
 |nil=>rfl
 |cons x l=>
  refine(oO (cs:=(x::l).flatMap Ba.cells) rfl (by decide) (lL (c:=Ba.cells) (fun _=>rfl) _) (by rw[flat_length (k:=14) (fun _=>rfl)];simp) (kS (fun _=>rfl) _)).trans ?_
  have:=kZ (c:=Ba.cells) (k:=14) (fun _=>rfl) (x::l)
  simp only[List.length_cons] at this
  rw[show(!(Nat.beq 14 1)||false)=true from rfl,this]
  rfl
structure Pa.good (p:Pa):Prop where
 lo:0<p.cells.length
 hi:p.cells.length<=1000000
 ce: ∀c∈p.cells,wL c
 dh:p.dyns.length<=1000000
 dy: ∀d∈p.dyns,d.length<=1000000
theorem Yd (p:Pa) (h:p.good) (b0 v0:Nat) (hb:b0<p.cells.length) (hv:v0< (p.cells.getD b0 []).length):
  Own Tryz.prog gl 39 [p.av] (.agg [.str p.name,.int .i64 p.clef,.int .i64 p.channel,.msl 0 0 p.cells.length 1,.sl 1 (p.dyns.map eH) .none]) [(0,aZ (jC 1 p.cells b0) p.cells.length),(1,aZ (jM 2 (p.cells.getD b0 []) v0) (p.cells.getD b0 []).length),(2,((p.cells.getD b0 []).getD v0 ⟨[]⟩).l.flatMap Ev.cells)] 3:=by
 have hown:=aG2 p.cells h.hi h.ce b0 v0 hb hv
 have hdy:=aOk p.dyns h.dh h.dy
 (refine Own.intro 2 mix names (fn:=Tryz.f39) Tryz.func39 rfl fun F hF hro W=>?_;simp only[Tryz.ntmps39,Tryz.results39,aI,Nat.reduceAdd,Nat.reduceSub])
 repeat' (first
  |simp -implicitDefEqProofs (disch:=first|assumption|omega) only[aA,aC,facts,if_pos,Nat.reduceAdd,Nat.reduceLeDiff,AV.cells,AV.one,Pa.av,mM,eX,fH,aK,aO,fZ,uX,xJ, *]
  |((with_reducible refine aS 40 ?_);refine vG hF hro hown (rfl) ?_)
  |((with_reducible refine aS 42 ?_);refine PC.useZ hF hdy (rfl) fun v hv=>?_;subst hv))
 exact uM.of [(4,0),(5,1),(6,2)] rfl (aG.cons 4 rfl rfl (dO _ fun j _=>vO (f:=bJ 0 [(4,0),(5,1),(6,2)]) (q:=5) (q':=1) rfl _ _ j) (aG.cons 5 rfl rfl (dO _ fun j _=>oG (f:=bJ 0 [(4,0),(5,1),(6,2)]) (q:=6) (q':=2) rfl _ _ j) (aG.cons 6 rfl rfl (fZ _) aG.nil))) rfl
theorem aEd {n:Nat} {a:ByteArray} {b c:Int} {k o m s:Nat} {r:List AV}:AV.ren (up n) (.agg [.str a,.int .i64 b,.int .i64 c,.msl k o m s,.sl 1 r .none])= .agg [.str a,.int .i64 b,.int .i64 c,.msl (k+n) o m s,.sl 1 r .none]:=rfl
theorem aLr (p:Pa) (h:p.good):PC Tryz.prog gl 39 [p.av] (fun v=>v=p.av):=by
 have hv0:0< (p.cells.getD 0 []).length:=by
  rw[List.getD_eq_getElem?_getD,List.getElem?_eq_getElem h.lo];exact(h.ce _ (List.getElem_mem h.lo)).lo
 refine PC.of_ownS (sty:=fun k=>k==1) (Yd p h 0 0 h.lo hv0) 4 ?_
 simp only[AV.nowS,List.map_cons,List.map_nil]
 have:=aRd (sty:=fun k=>k==1) (hp:=hget (hC [(0,aZ (jC 1 p.cells 0) p.cells.length),(1,aZ (jM 2 (p.cells.getD 0 []) 0) (p.cells.getD 0 []).length),(2,((p.cells.getD 0 []).getD 0 ⟨[]⟩).l.flatMap Ev.cells)])) (d:=0) (key:=0) (q:=1) (r:=2) p.cells 0 0 h.lo hv0 rfl rfl rfl rfl rfl
 simp only[AV.nowS] at this
 rw[this]
 rfl
def Pa.cells5 (p:Pa):List AV:=[.str p.name,.int .i64 p.clef,.int .i64 p.channel,.sl 1 (p.cells.map bV) .none,.sl 1 (p.dyns.map eH) .none]
def pa0:Pa:=⟨ByteArray.empty,0,0,[],[]⟩
instance:Inhabited Pa:=⟨pa0⟩
def kT (q:Nat) (ps:List Pa) (j0 j:Nat):List AV:=[.str (ps.getD j pa0).name,.int .i64 (ps.getD j pa0).clef,.int .i64 (ps.getD j pa0).channel,(if j=j0 then .msl q 0 (ps.getD j pa0).cells.length 1 else .sl 1 ((ps.getD j pa0).cells.map bV) .none),.sl 1 ((ps.getD j pa0).dyns.map eH) .none]
theorem Jp {f:Nat->Option Nat} {q q':Nat} (h:f q=some q') (vs:List Pa) (j0 j:Nat):(kT q vs j0 j).map (AV.ren f)=kT q' vs j0 j:=by
 by_cases hj:j=j0
 ·simp [kT,hj,AV.ren,h]
 ·simp [kT,hj,AV.ren]
theorem aBr {f:Nat->Option Nat} {q q':Nat} (vs:List Pa) (j0 j:Nat) (h:j≠j0):(kT q vs j0 j).map (AV.ren f)=kT q' vs j0 j:=by
 simp [kT,h,AV.ren]
theorem Fa {n q:Nat} {vs:List Pa} {j0 i:Nat}:(aZ (kT q vs j0) i).map (AV.ren (up n))=aZ (kT (q+n) vs j0) i:=dO i fun j _=>Jp (f:=up n) (q:=q) (q':=q+n) rfl vs j0 j
def paH (q:Nat) (p:Pa) (b0 v0:Nat):List (Nat×List AV):=[(q,aZ (jC (q+1) p.cells b0) p.cells.length),(q+1,aZ (jM (q+2) (p.cells.getD b0 []) v0) (p.cells.getD b0 []).length),(q+2,((p.cells.getD b0 []).getD v0 ⟨[]⟩).l.flatMap Ev.cells)]
def Jq (q:Nat) (ps:List Pa) (j0 b0 v0 i:Nat):List (Nat×List AV):=if j0<i then paH q (ps.getD j0 pa0) b0 v0 else []
theorem uP {q:Nat} {p:Pa} {b0 v0:Nat}:paH q p b0 v0=[(q,aZ (jC (q+1) p.cells b0) p.cells.length),(q+1,aZ (jM (q+2) (p.cells.getD b0 []) v0) (p.cells.getD b0 []).length),(q+2,((p.cells.getD b0 []).getD v0 ⟨[]⟩).l.flatMap Ev.cells)]:=rfl
theorem aGl (vs:List Pa) (hl:vs.length<=1000000) (hs: ∀p∈vs,p.good) (j0 b0 v0:Nat) (hj:j0<vs.length) (hb0:b0< (vs.getD j0 pa0).cells.length) (hv0:v0< ((vs.getD j0 pa0).cells.getD b0 []).length):
    Own Tryz.prog gl 38 [.sl 5 (vs.map Pa.av) .none,.fn 39 [] []] (.msl 0 0 vs.length 5) ((0,aZ (kT 1 vs j0) vs.length)::paH 1 (vs.getD j0 pa0) b0 v0) 4:=by
  (refine Own.intro 2 mix names (fn:=Tryz.f38) Tryz.func38 rfl fun F hF hro W=>?_;simp only[Tryz.ntmps38,Tryz.results38,aI,Nat.reduceAdd,Nat.reduceSub])
  repeat' (simp -implicitDefEqProofs (disch:=first|assumption|omega) only[aA,aC,facts,Nat.reduceAdd, *])
  refine jO (fD 22 [1,5,8,9,10]) 104 vs.length (fun i (_:Unit)=>⟨[.ud,.fn 39 [] [],.ud,.ud,.ud,iM 100 5 i,.ud,.ud,.sl 5 (vs.map Pa.av) .none,.int .i64 (vs.length:Nat),.int .i64 (i:Nat),.ud,.ud,.ud,.ud,.ud,.ud,.ud,.ud,.ud,.ud,.ud],[]⟩) (fun i _=>⟨hC (jE 100 (aZ (kT 101 vs j0) i) i++Jq 101 vs j0 b0 v0 i),104⟩) (fun i _=>i<1000001) ⟨(),by omega,bJ 5 [],gK 5 [],dG.of_fit rfl rfl rfl,by simp only[Jq,if_neg (Nat.not_lt_zero _)];exact aG.nil,rfl,rfl⟩ ?_
  rintro i x hi hi2
  rcases Nat.lt_or_ge i vs.length with hlt|hge
  · have hv:=hs vs[i] (List.getElem_mem hlt)
    have hget:vs.getD i pa0=vs[i]:=by rw[List.getD_eq_getElem?_getD,List.getElem?_eq_getElem hlt];rfl
    have hpc:=aLr vs[i] hv
    by_cases hij:i=j0
    · subst hij
      rw[hget] at hv0 hb0
      have hown:=Yd vs[i] hv b0 v0 hb0 hv0
      have hnlt: ¬i<i:=Nat.lt_irrefl i
      rcases i with _|i
      · simp only[aX,aY,Jq,if_neg hnlt,List.append_nil,aO]
        repeat' (first
    |simp -implicitDefEqProofs (disch:=first|assumption|omega) only[aA,aC,facts,if_pos,Nat.reduceAdd,Nat.reduceLT,Nat.reduceLeDiff,Int.reduceLE,Int.reduceAdd,gB,cO,List.flatMap_cons,List.flatMap_nil,AV.cells,true_or,AV.one,qW,wM,eX,fH,aK,aO,fZ,uX,xJ,aEd,wrap_in,List.getElem?_eq_getElem,Pa.av,aV, *]
    |((with_reducible refine aF (fun _=>?_) (fun _=>?_))<;>try omega)
    | ((with_reducible refine aS 39 ?_);refine vG hF hro hown (rfl) ?_))
        refine dM (0) () hlt (by omega) (by omega) (bJ 5 [(116,100),(112,101),(113,102),(114,103)]) (gK 5 [(116,100),(112,101),(113,102),(114,103)]) (dG.of_fit rfl rfl rfl) ?_ rfl rfl
        simp only[Jq,if_pos (show 0<0+1 by omega),bM,List.cons_append,List.nil_append,aK,aO,hget,uP]
        refine aG.cons 116 rfl rfl ?_ (aG.cons 112 rfl rfl (dO _ fun j _=>vO (f:=bJ 5 [(116,100),(112,101),(113,102),(114,103)]) (q:=113) (q':=102) rfl _ _ j) (aG.cons 113 rfl rfl (dO _ fun j _=>oG (f:=bJ 5 [(116,100),(112,101),(113,102),(114,103)]) (q:=114) (q':=103) rfl _ _ j) (aG.cons 114 rfl rfl (fZ _) aG.nil)))
        rw[fE,vK];simp [kT,hlt,AV.ren,bJ]
      · have hfl:(aZ (kT 101 vs (i+1)) (i+1)).length=(i+1)*5:=by rw[iD (k:=5) (fun _=>rfl)]
        simp only[dX,bM,Jq,if_neg hnlt,List.append_nil,aO,aK]
        repeat' (first
    |simp -implicitDefEqProofs (disch:=first|assumption|omega) only[aA,aC,facts,if_pos,if_neg,Nat.reduceAdd,Nat.reduceEqDiff,Nat.reduceLT,Nat.reduceLeDiff,gB,cO,List.flatMap_cons,List.flatMap_nil,AV.cells,AV.one,qW,wM,eX,fH,aK,aO,fZ,uX,xJ,aEd,wrap_in,List.getElem?_eq_getElem,Pa.av,aV, *]
    |((with_reducible refine aF (fun _=>?_) (fun _=>?_))<;>try omega)
    | ((with_reducible refine aS 39 ?_);refine vG hF hro hown (rfl) ?_))
        refine dM (i+1) () hlt (by omega) (by omega) (bJ 5 [(116,100),(112,101),(113,102),(114,103)]) (gK 5 [(116,100),(112,101),(113,102),(114,103)]) (dG.of_fit rfl rfl rfl) ?_ rfl rfl
        simp only[Jq,if_pos (show i+1<i+1+1 by omega),bM,List.cons_append,List.nil_append,aK,aO,hget,uP]
        refine aG.cons 116 rfl rfl ?_ (aG.cons 112 rfl rfl (dO _ fun j _=>vO (f:=bJ 5 [(116,100),(112,101),(113,102),(114,103)]) (q:=113) (q':=102) rfl _ _ j) (aG.cons 113 rfl rfl (dO _ fun j _=>oG (f:=bJ 5 [(116,100),(112,101),(113,102),(114,103)]) (q:=114) (q':=103) rfl _ _ j) (aG.cons 114 rfl rfl (fZ _) aG.nil)))
        rw[fE (i:=i+1),List.map_append,dO (c':=kT 101 vs (i+1)) (i+1) fun j hj=>aBr vs (i+1) j (by omega)];simp [kT,hlt,AV.ren,bJ]
    · rcases i with _|i
      · simp only[aX,aY,Jq,if_neg (Nat.not_lt_zero _),List.append_nil,aO]
        repeat' (first
    |simp -implicitDefEqProofs (disch:=first|assumption|omega) only[aA,aC,facts,if_pos,Nat.reduceAdd,Nat.reduceLT,Nat.reduceLeDiff,Int.reduceLE,Int.reduceAdd,gB,cO,List.flatMap_cons,List.flatMap_nil,AV.cells,true_or,AV.one,wrap_in,List.getElem?_eq_getElem,Pa.av,aV, *]
    |((with_reducible refine aF (fun _=>?_) (fun _=>?_))<;>try omega)
    | ((with_reducible refine aS 39 ?_);refine PC.useZ hF hpc (rfl) fun v hv=>?_;subst hv))
        refine dM (0) () hlt (by omega) (by omega) (bJ 5 [(113,100)]) (gK 5 [(113,100)]) (dG.of_fit rfl rfl rfl) ?_ rfl rfl
        simp only[Jq,if_neg (show¬j0<0+1 by omega),bM,List.append_nil,aK,aO]
        refine aG.cons 113 rfl rfl ?_ aG.nil
        rw[fE,vK];simp [kT,hij,hlt,AV.ren,bJ]
      · have hfl:(aZ (kT 101 vs j0) (i+1)).length=(i+1)*5:=by rw[iD (k:=5) (fun _=>rfl)]
        by_cases hjl:j0<i+1
        · simp only[dX,bM,Jq,if_pos hjl,List.cons_append,List.nil_append,aO,aK,uP]
          repeat' (first
    |simp -implicitDefEqProofs (disch:=first|assumption|omega) only[aA,aC,facts,if_pos,if_neg,Nat.reduceAdd,Nat.reduceEqDiff,Nat.reduceLT,Nat.reduceLeDiff,gB,cO,List.flatMap_cons,List.flatMap_nil,AV.cells,AV.one,wrap_in,List.getElem?_eq_getElem,Pa.av,aV, *]
    |((with_reducible refine aF (fun _=>?_) (fun _=>?_))<;>try omega)
    | ((with_reducible refine aS 39 ?_);refine PC.useZ hF hpc (rfl) fun v hv=>?_;subst hv))
          refine dM (i+1) () hlt (by omega) (by omega) (bJ 5 [(113,100),(101,101),(102,102),(103,103)]) (gK 5 [(113,100),(101,101),(102,102),(103,103)]) (dG.of_fit rfl rfl rfl) ?_ rfl rfl
          simp only[Jq,if_pos (show j0<i+1+1 by omega),bM,List.cons_append,List.nil_append,aK,aO,uP]
          refine aG.cons 113 rfl rfl ?_ (aG.cons 101 rfl rfl (dO _ fun j _=>vO (f:=bJ 5 [(113,100),(101,101),(102,102),(103,103)]) (q:=102) (q':=102) rfl _ _ j) (aG.cons 102 rfl rfl (dO _ fun j _=>oG (f:=bJ 5 [(113,100),(101,101),(102,102),(103,103)]) (q:=103) (q':=103) rfl _ _ j) (aG.cons 103 rfl rfl (fZ _) aG.nil)))
          rw[fE (i:=i+1),List.map_append,dO (c':=kT 101 vs j0) (i+1) fun j hj=>Jp (f:=bJ 5 [(113,100),(101,101),(102,102),(103,103)]) (q:=101) (q':=101) rfl vs j0 j];simp [kT,hij,hlt,AV.ren,bJ]
        · simp only[dX,bM,Jq,if_neg hjl,List.append_nil,aO,aK]
          repeat' (first
    |simp -implicitDefEqProofs (disch:=first|assumption|omega) only[aA,aC,facts,if_pos,Nat.reduceAdd,Nat.reduceEqDiff,Nat.reduceLT,Nat.reduceLeDiff,gB,cO,List.flatMap_cons,List.flatMap_nil,AV.cells,AV.one,wrap_in,List.getElem?_eq_getElem,Pa.av,aV, *]
    |((with_reducible refine aF (fun _=>?_) (fun _=>?_))<;>try omega)
    |((with_reducible refine aS 39 ?_);refine PC.useZ hF hpc (rfl) fun v hv=>?_;subst hv))
          refine dM (i+1) () hlt (by omega) (by omega) (bJ 5 [(113,100)]) (gK 5 [(113,100)]) (dG.of_fit rfl rfl rfl) ?_ rfl rfl
          simp only[Jq,if_neg (show¬j0<i+1+1 by omega),bM,List.append_nil,aK,aO]
          refine aG.cons 113 rfl rfl ?_ aG.nil
          rw[fE (i:=i+1),List.map_append,dO (c':=kT 101 vs j0) (i+1) fun j hj=>aBr vs j0 j (by omega)];simp [kT,hij,hlt,AV.ren,bJ]
  · have:i=vs.length:=by omega
    subst this
    obtain⟨n,hn⟩: ∃n,vs.length=n+1:=⟨vs.length - 1,by omega⟩
    repeat' (first
    |simp -implicitDefEqProofs (disch:=first|assumption|omega) only[aA,aC,facts,Nat.reduceAdd,aV, *]
    |((with_reducible refine aF (fun _=>?_) (fun _=>?_))<;>try omega))
    refine uM.of [(100,0),(101,1),(102,2),(103,3)] rfl ?_ rfl
    simp only[Jq,if_pos (show j0<n+1 by omega),bM,List.cons_append,List.nil_append,aK,aO,uP]
    exact aG.cons 100 rfl rfl (dO (n+1) fun j hj=>Jp (f:=bJ 0 [(100,0),(101,1),(102,2),(103,3)]) (q:=101) (q':=1) rfl vs j0 j) (aG.cons 101 rfl rfl (dO _ fun j _=>vO (f:=bJ 0 [(100,0),(101,1),(102,2),(103,3)]) (q:=102) (q':=2) rfl _ _ j) (aG.cons 102 rfl rfl (dO _ fun j _=>oG (f:=bJ 0 [(100,0),(101,1),(102,2),(103,3)]) (q:=103) (q':=3) rfl _ _ j) (aG.cons 103 rfl rfl (fZ _) aG.nil)))
structure Sc.good (s:Sc):Prop where
 lo:0<s.parts.length
 hi:s.parts.length<=1000000
 pa: ∀p∈s.parts,p.good
 bh:s.bars.length<=1000000
 ba: ∀b∈s.bars,b.short
theorem uA (s:Sc) (h:s.good) (j0 b0 v0:Nat) (hj:j0<s.parts.length) (hb0:b0< (s.parts.getD j0 pa0).cells.length) (hv0:v0< ((s.parts.getD j0 pa0).cells.getD b0 []).length):
  Own Tryz.prog gl 16 [s.av] (.agg [.str s.title,.sl 14 (s.bars.map Ba.av) .none,.msl 0 0 s.parts.length 5]) ((0,aZ (kT 1 s.parts j0) s.parts.length)::paH 1 (s.parts.getD j0 pa0) b0 v0) 4:=by
 have hown:=aGl s.parts h.hi h.pa j0 b0 v0 hj hb0 hv0
 have hba:=aC5 s.bars h.bh h.ba
 (refine Own.intro 2 mix names (fn:=Tryz.f16) Tryz.func16 rfl fun F hF hro W=>?_;simp only[Tryz.ntmps16,Tryz.results16,aI,Nat.reduceAdd,Nat.reduceSub])
 repeat' (first
  |simp -implicitDefEqProofs (disch:=first|assumption|omega) only[aA,aC,facts,if_pos,Nat.reduceAdd,Nat.reduceLeDiff,AV.cells,AV.one,Sc.av,mM,eX,fH,aK,aO,fZ,uX,xJ,Fa,uP, *]
  |((with_reducible refine aS 38 ?_);refine vG hF hro hown (rfl) ?_)
  |((with_reducible refine aS 37 ?_);refine PC.useZ hF hba (rfl) fun v hv=>?_;subst hv))
 exact uM.of [(8,0),(9,1),(10,2),(11,3)] rfl (aG.cons 8 rfl rfl (dO _ fun j _=>Jp (f:=bJ 0 [(8,0),(9,1),(10,2),(11,3)]) (q:=9) (q':=1) rfl _ _ j) (aG.cons 9 rfl rfl (dO _ fun j _=>vO (f:=bJ 0 [(8,0),(9,1),(10,2),(11,3)]) (q:=10) (q':=2) rfl _ _ j) (aG.cons 10 rfl rfl (dO _ fun j _=>oG (f:=bJ 0 [(8,0),(9,1),(10,2),(11,3)]) (q:=11) (q':=3) rfl _ _ j) (aG.cons 11 rfl rfl (fZ _) aG.nil)))) rfl
theorem aJd {sty:Nat->Bool} {hp:Hp} {d kp qc qv qe:Nat} (s:Sc) (j0 b0 v0:Nat) (hj:j0<s.parts.length) (hb0:b0< (s.parts.getD j0 pa0).cells.length) (hv0:v0< ((s.parts.getD j0 pa0).cells.getD b0 []).length) (hs1:sty qc=false) (hs2:sty qv=true)
  (h1:hp kp=some (.cells (aZ (kT qc s.parts j0) s.parts.length))) (h2:hp qc=some (.cells (aZ (jC qv (s.parts.getD j0 pa0).cells b0) (s.parts.getD j0 pa0).cells.length)))
  (h3:hp qv=some (.cells (aZ (jM qe ((s.parts.getD j0 pa0).cells.getD b0 []) v0) ((s.parts.getD j0 pa0).cells.getD b0 []).length))) (h4:hp qe=some (.cells ((((s.parts.getD j0 pa0).cells.getD b0 []).getD v0 ⟨[]⟩).l.flatMap Ev.cells))):
  AV.nowS sty hp (d+5) (.agg [.str s.title,.sl 14 (s.bars.map Ba.av) .none,.msl kp 0 s.parts.length 5])=s.av:=by
 have hrow:(aZ (kT qc s.parts j0) s.parts.length).map (AV.nowS sty hp (d+3))=s.parts.flatMap Pa.cells5:=by
  rw[Ah (c':=fun j=>Pa.cells5 (s.parts.getD j pa0)) _ fun j hj'=>?_]
  ·exact Nu fun j hj'=>by rw[List.getD_eq_getElem?_getD,List.getElem?_eq_getElem hj'];rfl
  ·by_cases e:j=j0
   ·subst e
    simp only[kT,if_true,List.map_cons,List.map_nil]
    rw[aRd _ b0 v0 hb0 hv0 hs1 hs2 h2 h3 h4];rfl
   ·simp only[kT,if_neg e,List.map_cons,List.map_nil]
    rfl
 have hps:AV.nowS sty hp (d+4) (.msl kp 0 s.parts.length 5)= .sl 5 (s.parts.map Pa.av) .none:=by
  refine(oO h1 (by decide) hrow (by rw[iD (k:=5) (fun _=>rfl)];omega) (kS (fun _=>rfl) s.parts)).trans ?_
  rw[show(!(Nat.beq 5 1)||sty kp)=true from rfl,kZ (c:=Pa.cells5) (k:=5) (fun _=>rfl) s.parts]
  rfl
 have:AV.nowS sty hp (d+5) (.agg [.str s.title,.sl 14 (s.bars.map Ba.av) .none,.msl kp 0 s.parts.length 5])= .agg [.str s.title,.sl 14 (s.bars.map Ba.av) .none,AV.nowS sty hp (d+4) (.msl kp 0 s.parts.length 5)]:=rfl
 rw[this,hps];rfl
theorem aLs (s:Sc) (h:s.good):PC Tryz.prog gl 16 [s.av] (fun v=>v=s.av):=by
 have hb0:0< (s.parts.getD 0 pa0).cells.length:=by
  rw[List.getD_eq_getElem?_getD,List.getElem?_eq_getElem h.lo];exact(h.pa _ (List.getElem_mem h.lo)).lo
 have hv0:0< ((s.parts.getD 0 pa0).cells.getD 0 []).length:=by
  have hp:(s.parts.getD 0 pa0).good:=by
   rw[List.getD_eq_getElem?_getD,List.getElem?_eq_getElem h.lo];exact h.pa _ (List.getElem_mem h.lo)
  rw[List.getD_eq_getElem?_getD (l:=(s.parts.getD 0 pa0).cells),List.getElem?_eq_getElem hb0];exact(hp.ce _ (List.getElem_mem hb0)).lo
 exact PC.of_ownS (sty:=fun k=>k==2) (uA s h 0 0 0 h.lo hb0 hv0) 5 (aJd (d:=0) s 0 0 0 h.lo hb0 hv0 rfl rfl rfl rfl rfl rfl)
end Go.Proofs.Pv
