/-
Layer 9's edits: copies of dynamics, bars, parts and scores.
Conditions: none but those that each statement names.
-/
import Derived.Test.YtlcnbhiklpfpjaaGreatDoorC09a
set_option linter.unusedVariables false
set_option linter.unusedSimpArgs false
set_option maxRecDepth 100000
set_option maxHeartbeats 16000000
namespace Go.Proofs.Pv
open Go Go.Proofs
def fP (d:List Dy):List AV:=[eP d]
theorem Qy (l:List (List Dy)) (hl:l.length<=1000000) (hs: ∀d∈l,d.length<=1000000):Own Tryz.prog gl 42 [.sl 1 (l.map eP) .none,.fn 43 [] []] (iR 0 1 l.length) (jI 0 (l.flatMap fP) l.length) 1:=by
  (refine Own.intro 2 mix names (fn:=Tryz.f42) Tryz.func42 rfl fun F hF hro W=>?_;simp only[Tryz.ntmps42,Tryz.results42,aJ,Nat.reduceAdd,Nat.reduceSub])
  repeat' (simp -implicitDefEqProofs (disch:=first|assumption|omega) only[aA,aC,facts,Nat.reduceAdd, *])
  refine jV (fD 22 [1,5,8,9,10]) 101 l.length (fun i (_:Unit)=>⟨[.ud,.fn 43 [] [],.ud,.ud,.ud,iR 100 1 i,.ud,.ud,.sl 1 (l.map eP) .none,.int .i64 (l.length:Nat),.int .i64 (i:Nat),.ud,.ud,.ud,.ud,.ud,.ud,.ud,.ud,.ud,.ud,.ud],[]⟩) (fun i _=>⟨hC (jI 100 ((l.take i).flatMap fP) i),101⟩) (fun i _=>i<1000001) ⟨(),by omega,bI 5 [],gK 5 [],dH.of_fit rfl rfl rfl,aG.nil,rfl,rfl⟩ ?_
  rintro i x hi hi2
  rcases Nat.lt_or_ge i l.length with hlt|hge
  · have hd:=hs l[i] (List.getElem_mem hlt)
    rcases i with _|i
    · simp only[iR,jI,hC,List.map_nil]
      repeat' (first
    |simp -implicitDefEqProofs (disch:=first|assumption|omega) only[aA,aC,facts,if_pos,Nat.reduceAdd,Nat.reduceLT,Nat.reduceLeDiff,Int.reduceLE,Int.reduceAdd,gI,cO,List.flatMap_cons,List.flatMap_nil,AV.cells,true_or,AV.one,wrap_in,List.getElem?_eq_getElem,eP,aT, *]
    |((with_reducible refine aF (fun _=>?_) (fun _=>?_))<;>try omega)
    | ((with_reducible refine aS 43 ?_);refine PC.useZ hF (Qx _ hd) (rfl) fun v hv=>?_;subst hv))
      refine dN 0 () hlt (by omega) (by omega) (bI 5 [(109,100)]) (gK 5 [(109,100)]) (dH.of_fit rfl rfl rfl) ?_ rfl rfl
      refine aG.cons 109 rfl rfl ?_ aG.nil
      rw[jX hlt];rfl
    · have hfl:((l.take (i+1)).flatMap fP).length=(i+1):=by rw[flat_length (k:=1) (fun _=>rfl),List.length_take];omega
      simp only[iR,jI,hC,List.map_cons,List.map_nil]
      repeat' (first
    |simp -implicitDefEqProofs (disch:=first|assumption|omega) only[aA,aC,facts,if_pos,Nat.reduceAdd,Nat.reduceLT,Nat.reduceLeDiff,gI,cO,List.flatMap_cons,List.flatMap_nil,AV.cells,AV.one,wrap_in,List.getElem?_eq_getElem,eP,aT, *]
    |((with_reducible refine aF (fun _=>?_) (fun _=>?_))<;>try omega)
    | ((with_reducible refine aS 43 ?_);refine PC.useZ hF (Qx _ hd) (rfl) fun v hv=>?_;subst hv))
      refine dN (i+1) () hlt (by omega) (by omega) (bI 5 [(109,100)]) (gK 5 [(109,100)]) (dH.of_fit rfl rfl rfl) ?_ rfl rfl
      refine aG.cons 109 rfl rfl ?_ aG.nil
      rw[jX hlt,List.map_append]
      rw[jR (c:=fP) (fun _=>rfl)];rfl
  · have:i=l.length:=by omega
    subst this
    repeat' (first
    |simp -implicitDefEqProofs (disch:=first|assumption|omega) only[aA,aC,facts,Nat.reduceAdd,aT, *]
    |((with_reducible refine aF (fun _=>?_) (fun _=>?_))<;>try omega))
    rw[List.take_length]
    exact Nu fun f=>jR (c:=fP) (fun _=>rfl) l
theorem aPk (l:List (List Dy)) (hl:l.length<=1000000) (hs: ∀d∈l,d.length<=1000000):PC Tryz.prog gl 42 [.sl 1 (l.map eP) .none,.fn 43 [] []] (fun v=>v= .sl 1 (l.map eP) .none):=by
 refine PC.of_ownS (sty:=fun _=>false) (Qy l hl hs) 2 ?_
 cases l with
 |nil=>rfl
 |cons x l=>
  refine(pJ (cs:=(x::l).flatMap fP) rfl (by decide) (lV (c:=fP) (fun _=>rfl) _) (by rw[flat_length (k:=1) (fun _=>rfl)];simp) (kZ (fun _=>rfl) _)).trans ?_
  rw[show((x::l).flatMap fP)=(x::l).map eP from nZ (c:=eP) (x::l),Bool.or_false,show(!(Nat.beq 1 1))=false from rfl]
  have:=zI (c:=eP) (x::l)
  simp only[List.length_cons] at this
  rw[this]
def Ba.cells (b:Ba):List AV:=b.av.cells
structure Ba.short (b:Ba):Prop where
 g:b.meter.groups.length<=1000000
 e:b.turn.endings.length<=1000000
 t:b.tempos.length<=1000000
theorem Qz (l:List Ba) (hl:l.length<=1000000) (hs: ∀b∈l,b.short):Own Tryz.prog gl 37 [.sl 14 (l.map Ba.av) .none] (iR 0 14 l.length) (jI 0 (l.flatMap Ba.cells) l.length) 1:=by
  (refine Own.intro 2 mix names (fn:=Tryz.f37) Tryz.func37 rfl fun F hF hro W=>?_;simp only[Tryz.ntmps37,Tryz.results37,aJ,Nat.reduceAdd,Nat.reduceSub])
  repeat' (simp -implicitDefEqProofs (disch:=first|assumption|omega) only[aA,aC,facts,Nat.reduceAdd, *])
  refine jV (fD 34 [3,6,7,8]) 101 l.length (fun i (_:Unit)=>⟨[.ud,.ud,.ud,iR 100 14 i,.ud,.ud,.sl 14 (l.map Ba.av) .none,.int .i64 (l.length:Nat),.int .i64 (i:Nat),.ud,.ud,.ud,.ud,.ud,.ud,.ud,.ud,.ud,.ud,.ud,.ud,.ud,.ud,.ud,.ud,.ud,.ud,.ud,.ud,.ud,.ud,.ud,.ud,.ud],[]⟩) (fun i _=>⟨hC (jI 100 ((l.take i).flatMap Ba.cells) i),101⟩) (fun i _=>i<1000001) ⟨(),by omega,bI 5 [],gK 5 [],dH.of_fit rfl rfl rfl,aG.nil,rfl,rfl⟩ ?_
  rintro i x hi hi2
  rcases Nat.lt_or_ge i l.length with hlt|hge
  · have he:=hs l[i] (List.getElem_mem hlt)
    have hg:=he.g
    have hen:=he.e
    have htm:=he.t
    rcases i with _|i
    · simp only[iR,jI,hC,List.map_nil]
      repeat' (first
    |simp -implicitDefEqProofs (disch:=first|assumption|omega) only[aA,aC,facts,if_pos,if_neg,Nat.reduceAdd,Nat.reduceEqDiff,Nat.reduceLT,Nat.reduceLeDiff,Int.reduceLE,Int.reduceAdd,gI,cO,List.flatMap_cons,List.flatMap_nil,AV.cells,true_or,AV.one,wrap_in,List.getElem?_eq_getElem,Ba.av,aT, *]
    |((with_reducible refine w_at 81 ?_);refine iZ (sN _ hg) (rfl) ?_)
    |((with_reducible refine w_at 81 ?_);refine iZ (sN _ hen) (rfl) ?_)
    |((with_reducible refine w_at 82 ?_);refine iZ (aA3 _ htm) (rfl) ?_)
    |((with_reducible refine aF (fun _=>?_) (fun _=>?_))<;>try omega)
    |((with_reducible refine aO ?_);refine jH (by decide+kernel) ?_)
    | ((with_reducible refine dP ?_ ?_);· decide+kernel))
      refine dN (0) () hlt (by omega) (by omega) (bI 5 [(128,100)]) (gK 5 [(128,100)]) (dH.of_fit rfl rfl rfl) ?_ rfl rfl
      refine aG.cons 128 rfl rfl ?_ aG.nil
      rw[jX hlt];rfl
    · have hfl:((l.take (i+1)).flatMap Ba.cells).length=(i+1)*14:=by rw[flat_length (k:=14) (fun _=>rfl),List.length_take];omega
      simp only[iR,jI,hC,List.map_cons,List.map_nil]
      repeat' (first
    |simp -implicitDefEqProofs (disch:=first|assumption|omega) only[aA,aC,facts,if_pos,if_neg,Nat.reduceAdd,Nat.reduceEqDiff,Nat.reduceLT,Nat.reduceLeDiff,gI,cO,List.flatMap_cons,List.flatMap_nil,AV.cells,AV.one,wrap_in,List.getElem?_eq_getElem,Ba.av,aT, *]
    |((with_reducible refine w_at 81 ?_);refine iZ (sN _ hg) (rfl) ?_)
    |((with_reducible refine w_at 81 ?_);refine iZ (sN _ hen) (rfl) ?_)
    |((with_reducible refine w_at 82 ?_);refine iZ (aA3 _ htm) (rfl) ?_)
    |((with_reducible refine aF (fun _=>?_) (fun _=>?_))<;>try omega)
    |((with_reducible refine aO ?_);refine jH (by decide+kernel) ?_)
    | ((with_reducible refine dP ?_ ?_);· decide+kernel))
      refine dN (i+1) () hlt (by omega) (by omega) (bI 5 [(128,100)]) (gK 5 [(128,100)]) (dH.of_fit rfl rfl rfl) ?_ rfl rfl
      refine aG.cons 128 rfl rfl ?_ aG.nil
      rw[jX hlt,List.map_append]
      rw[jR (c:=Ba.cells) (fun _=>rfl)];rfl
  · have:i=l.length:=by omega
    subst this
    repeat' (first
    |simp -implicitDefEqProofs (disch:=first|assumption|omega) only[aA,aC,facts,Nat.reduceAdd,aT, *]
    |((with_reducible refine aF (fun _=>?_) (fun _=>?_))<;>try omega))
    rw[List.take_length]
    exact Nu fun f=>jR (c:=Ba.cells) (fun _=>rfl) l
theorem aDy (l:List Ba) (hl:l.length<=1000000) (hs: ∀b∈l,b.short):PC Tryz.prog gl 37 [.sl 14 (l.map Ba.av) .none] (fun v=>v= .sl 14 (l.map Ba.av) .none):=by
 refine PC.of_ownS (sty:=fun _=>false) (Qz l hl hs) 2 ?_
 cases l with
 |nil=>rfl
 |cons x l=>
  refine(pJ (cs:=(x::l).flatMap Ba.cells) rfl (by decide) (lV (c:=Ba.cells) (fun _=>rfl) _) (by rw[flat_length (k:=14) (fun _=>rfl)];simp) (kZ (fun _=>rfl) _)).trans ?_
  have:=lI (c:=Ba.cells) (k:=14) (fun _=>rfl) (x::l)
  simp only[List.length_cons] at this
  rw[show(!(Nat.beq 14 1)||false)=true from rfl,this]
  rfl
structure Pa.good (p:Pa):Prop where
 lo:0<p.cells.length
 hi:p.cells.length<=1000000
 ce: ∀c∈p.cells,xC c
 dh:p.dyns.length<=1000000
 dy: ∀d∈p.dyns,d.length<=1000000
theorem Zf (p:Pa) (h:p.good) (b0 v0:Nat) (hb:b0<p.cells.length) (hv:v0< (p.cells.getD b0 []).length):
  Own Tryz.prog gl 39 [p.av] (.agg [.str p.name,.int .i64 p.clef,.int .i64 p.channel,.msl 0 0 p.cells.length 1,.sl 1 (p.dyns.map eP) .none]) [(0,aZ (jG 1 p.cells b0) p.cells.length),(1,aZ (jU 2 (p.cells.getD b0 []) v0) (p.cells.getD b0 []).length),(2,((p.cells.getD b0 []).getD v0 ⟨[]⟩).l.flatMap Ev.cells)] 3:=by
 have hown:=aHr p.cells h.hi h.ce b0 v0 hb hv
 have hdy:=aPk p.dyns h.dh h.dy
 (refine Own.intro 2 mix names (fn:=Tryz.f39) Tryz.func39 rfl fun F hF hro W=>?_;simp only[Tryz.ntmps39,Tryz.results39,aJ,Nat.reduceAdd,Nat.reduceSub])
 repeat' (first
  |simp -implicitDefEqProofs (disch:=first|assumption|omega) only[aA,aC,facts,if_pos,Nat.reduceAdd,Nat.reduceLeDiff,AV.cells,AV.one,Pa.av,nC,eX,fH,aK,aN,gB,vT,yD, *]
  |((with_reducible refine aS 40 ?_);refine vZ hF hro hown (rfl) ?_)
  |((with_reducible refine aS 42 ?_);refine PC.useZ hF hdy (rfl) fun v hv=>?_;subst hv))
 exact vI.of [(4,0),(5,1),(6,2)] rfl (aG.cons 4 rfl rfl (dO _ fun j _=>wI (f:=bI 0 [(4,0),(5,1),(6,2)]) (q:=5) (q':=1) rfl _ _ j) (aG.cons 5 rfl rfl (dO _ fun j _=>oQ (f:=bI 0 [(4,0),(5,1),(6,2)]) (q:=6) (q':=2) rfl _ _ j) (aG.cons 6 rfl rfl (gB _) aG.nil))) rfl
theorem aE4 {n:Nat} {a:ByteArray} {b c:Int} {k o m s:Nat} {r:List AV}:AV.ren (up n) (.agg [.str a,.int .i64 b,.int .i64 c,.msl k o m s,.sl 1 r .none])= .agg [.str a,.int .i64 b,.int .i64 c,.msl (k+n) o m s,.sl 1 r .none]:=rfl
theorem aMm (p:Pa) (h:p.good):PC Tryz.prog gl 39 [p.av] (fun v=>v=p.av):=by
 have hv0:0< (p.cells.getD 0 []).length:=by
  rw[List.getD_eq_getElem?_getD,List.getElem?_eq_getElem h.lo];exact(h.ce _ (List.getElem_mem h.lo)).lo
 refine PC.of_ownS (sty:=fun k=>k==1) (Zf p h 0 0 h.lo hv0) 4 ?_
 simp only[AV.nowS,List.map_cons,List.map_nil]
 have:=aSj (sty:=fun k=>k==1) (hp:=hget (hC [(0,aZ (jG 1 p.cells 0) p.cells.length),(1,aZ (jU 2 (p.cells.getD 0 []) 0) (p.cells.getD 0 []).length),(2,((p.cells.getD 0 []).getD 0 ⟨[]⟩).l.flatMap Ev.cells)])) (d:=0) (key:=0) (q:=1) (r:=2) p.cells 0 0 h.lo hv0 rfl rfl rfl rfl rfl
 simp only[AV.nowS] at this
 rw[this]
 rfl
def Pa.cells5 (p:Pa):List AV:=[.str p.name,.int .i64 p.clef,.int .i64 p.channel,.sl 1 (p.cells.map bU) .none,.sl 1 (p.dyns.map eP) .none]
def pa0:Pa:=⟨ByteArray.empty,0,0,[],[]⟩
instance:Inhabited Pa:=⟨pa0⟩
def lC (q:Nat) (ps:List Pa) (j0 j:Nat):List AV:=[.str (ps.getD j pa0).name,.int .i64 (ps.getD j pa0).clef,.int .i64 (ps.getD j pa0).channel,(if j=j0 then .msl q 0 (ps.getD j pa0).cells.length 1 else .sl 1 ((ps.getD j pa0).cells.map bU) .none),.sl 1 ((ps.getD j pa0).dyns.map eP) .none]
theorem Ll {f:Nat->Option Nat} {q q':Nat} (h:f q=some q') (vs:List Pa) (j0 j:Nat):(lC q vs j0 j).map (AV.ren f)=lC q' vs j0 j:=by
 by_cases hj:j=j0
 ·simp [lC,hj,AV.ren,h]
 ·simp [lC,hj,AV.ren]
theorem aCk {f:Nat->Option Nat} {q q':Nat} (vs:List Pa) (j0 j:Nat) (h:j≠j0):(lC q vs j0 j).map (AV.ren f)=lC q' vs j0 j:=by
 simp [lC,h,AV.ren]
theorem Gv {n q:Nat} {vs:List Pa} {j0 i:Nat}:(aZ (lC q vs j0) i).map (AV.ren (up n))=aZ (lC (q+n) vs j0) i:=dO i fun j _=>Ll (f:=up n) (q:=q) (q':=q+n) rfl vs j0 j
def paH (q:Nat) (p:Pa) (b0 v0:Nat):List (Nat×List AV):=[(q,aZ (jG (q+1) p.cells b0) p.cells.length),(q+1,aZ (jU (q+2) (p.cells.getD b0 []) v0) (p.cells.getD b0 []).length),(q+2,((p.cells.getD b0 []).getD v0 ⟨[]⟩).l.flatMap Ev.cells)]
def Lm (q:Nat) (ps:List Pa) (j0 b0 v0 i:Nat):List (Nat×List AV):=if j0<i then paH q (ps.getD j0 pa0) b0 v0 else []
theorem vM {q:Nat} {p:Pa} {b0 v0:Nat}:paH q p b0 v0=[(q,aZ (jG (q+1) p.cells b0) p.cells.length),(q+1,aZ (jU (q+2) (p.cells.getD b0 []) v0) (p.cells.getD b0 []).length),(q+2,((p.cells.getD b0 []).getD v0 ⟨[]⟩).l.flatMap Ev.cells)]:=rfl
theorem aHa (vs:List Pa) (hl:vs.length<=1000000) (hs: ∀p∈vs,p.good) (j0 b0 v0:Nat) (hj:j0<vs.length) (hb0:b0< (vs.getD j0 pa0).cells.length) (hv0:v0< ((vs.getD j0 pa0).cells.getD b0 []).length):
    Own Tryz.prog gl 38 [.sl 5 (vs.map Pa.av) .none,.fn 39 [] []] (.msl 0 0 vs.length 5) ((0,aZ (lC 1 vs j0) vs.length)::paH 1 (vs.getD j0 pa0) b0 v0) 4:=by
  (refine Own.intro 2 mix names (fn:=Tryz.f38) Tryz.func38 rfl fun F hF hro W=>?_;simp only[Tryz.ntmps38,Tryz.results38,aJ,Nat.reduceAdd,Nat.reduceSub])
  repeat' (simp -implicitDefEqProofs (disch:=first|assumption|omega) only[aA,aC,facts,Nat.reduceAdd, *])
  refine jV (fD 22 [1,5,8,9,10]) 104 vs.length (fun i (_:Unit)=>⟨[.ud,.fn 39 [] [],.ud,.ud,.ud,iR 100 5 i,.ud,.ud,.sl 5 (vs.map Pa.av) .none,.int .i64 (vs.length:Nat),.int .i64 (i:Nat),.ud,.ud,.ud,.ud,.ud,.ud,.ud,.ud,.ud,.ud,.ud],[]⟩) (fun i _=>⟨hC (jI 100 (aZ (lC 101 vs j0) i) i++Lm 101 vs j0 b0 v0 i),104⟩) (fun i _=>i<1000001) ⟨(),by omega,bI 5 [],gK 5 [],dH.of_fit rfl rfl rfl,by simp only[Lm,if_neg (Nat.not_lt_zero _)];exact aG.nil,rfl,rfl⟩ ?_
  rintro i x hi hi2
  rcases Nat.lt_or_ge i vs.length with hlt|hge
  · have hv:=hs vs[i] (List.getElem_mem hlt)
    have hget:vs.getD i pa0=vs[i]:=by rw[List.getD_eq_getElem?_getD,List.getElem?_eq_getElem hlt];rfl
    have hpc:=aMm vs[i] hv
    by_cases hij:i=j0
    · subst hij
      rw[hget] at hv0 hb0
      have hown:=Zf vs[i] hv b0 v0 hb0 hv0
      have hnlt: ¬i<i:=Nat.lt_irrefl i
      rcases i with _|i
      · simp only[aX,aY,Lm,if_neg hnlt,List.append_nil,aN]
        repeat' (first
    |simp -implicitDefEqProofs (disch:=first|assumption|omega) only[aA,aC,facts,if_pos,Nat.reduceAdd,Nat.reduceLT,Nat.reduceLeDiff,Int.reduceLE,Int.reduceAdd,gI,cO,List.flatMap_cons,List.flatMap_nil,AV.cells,true_or,AV.one,rO,xF,eX,fH,aK,aN,gB,vT,yD,aE4,wrap_in,List.getElem?_eq_getElem,Pa.av,aT, *]
    |((with_reducible refine aF (fun _=>?_) (fun _=>?_))<;>try omega)
    | ((with_reducible refine aS 39 ?_);refine vZ hF hro hown (rfl) ?_))
        refine dN (0) () hlt (by omega) (by omega) (bI 5 [(116,100),(112,101),(113,102),(114,103)]) (gK 5 [(116,100),(112,101),(113,102),(114,103)]) (dH.of_fit rfl rfl rfl) ?_ rfl rfl
        simp only[Lm,if_pos (show 0<0+1 by omega),bJ,List.cons_append,List.nil_append,aK,aN,hget,vM]
        refine aG.cons 116 rfl rfl ?_ (aG.cons 112 rfl rfl (dO _ fun j _=>wI (f:=bI 5 [(116,100),(112,101),(113,102),(114,103)]) (q:=113) (q':=102) rfl _ _ j) (aG.cons 113 rfl rfl (dO _ fun j _=>oQ (f:=bI 5 [(116,100),(112,101),(113,102),(114,103)]) (q:=114) (q':=103) rfl _ _ j) (aG.cons 114 rfl rfl (gB _) aG.nil)))
        rw[fE,wF];simp [lC,hlt,AV.ren,bI]
      · have hfl:(aZ (lC 101 vs (i+1)) (i+1)).length=(i+1)*5:=by rw[iG (k:=5) (fun _=>rfl)]
        simp only[dY,bJ,Lm,if_neg hnlt,List.append_nil,aN,aK]
        repeat' (first
    |simp -implicitDefEqProofs (disch:=first|assumption|omega) only[aA,aC,facts,if_pos,if_neg,Nat.reduceAdd,Nat.reduceEqDiff,Nat.reduceLT,Nat.reduceLeDiff,gI,cO,List.flatMap_cons,List.flatMap_nil,AV.cells,AV.one,rO,xF,eX,fH,aK,aN,gB,vT,yD,aE4,wrap_in,List.getElem?_eq_getElem,Pa.av,aT, *]
    |((with_reducible refine aF (fun _=>?_) (fun _=>?_))<;>try omega)
    | ((with_reducible refine aS 39 ?_);refine vZ hF hro hown (rfl) ?_))
        refine dN (i+1) () hlt (by omega) (by omega) (bI 5 [(116,100),(112,101),(113,102),(114,103)]) (gK 5 [(116,100),(112,101),(113,102),(114,103)]) (dH.of_fit rfl rfl rfl) ?_ rfl rfl
        simp only[Lm,if_pos (show i+1<i+1+1 by omega),bJ,List.cons_append,List.nil_append,aK,aN,hget,vM]
        refine aG.cons 116 rfl rfl ?_ (aG.cons 112 rfl rfl (dO _ fun j _=>wI (f:=bI 5 [(116,100),(112,101),(113,102),(114,103)]) (q:=113) (q':=102) rfl _ _ j) (aG.cons 113 rfl rfl (dO _ fun j _=>oQ (f:=bI 5 [(116,100),(112,101),(113,102),(114,103)]) (q:=114) (q':=103) rfl _ _ j) (aG.cons 114 rfl rfl (gB _) aG.nil)))
        rw[fE (i:=i+1),List.map_append,dO (c':=lC 101 vs (i+1)) (i+1) fun j hj=>aCk vs (i+1) j (by omega)];simp [lC,hlt,AV.ren,bI]
    · rcases i with _|i
      · simp only[aX,aY,Lm,if_neg (Nat.not_lt_zero _),List.append_nil,aN]
        repeat' (first
    |simp -implicitDefEqProofs (disch:=first|assumption|omega) only[aA,aC,facts,if_pos,Nat.reduceAdd,Nat.reduceLT,Nat.reduceLeDiff,Int.reduceLE,Int.reduceAdd,gI,cO,List.flatMap_cons,List.flatMap_nil,AV.cells,true_or,AV.one,wrap_in,List.getElem?_eq_getElem,Pa.av,aT, *]
    |((with_reducible refine aF (fun _=>?_) (fun _=>?_))<;>try omega)
    | ((with_reducible refine aS 39 ?_);refine PC.useZ hF hpc (rfl) fun v hv=>?_;subst hv))
        refine dN (0) () hlt (by omega) (by omega) (bI 5 [(113,100)]) (gK 5 [(113,100)]) (dH.of_fit rfl rfl rfl) ?_ rfl rfl
        simp only[Lm,if_neg (show¬j0<0+1 by omega),bJ,List.append_nil,aK,aN]
        refine aG.cons 113 rfl rfl ?_ aG.nil
        rw[fE,wF];simp [lC,hij,hlt,AV.ren,bI]
      · have hfl:(aZ (lC 101 vs j0) (i+1)).length=(i+1)*5:=by rw[iG (k:=5) (fun _=>rfl)]
        by_cases hjl:j0<i+1
        · simp only[dY,bJ,Lm,if_pos hjl,List.cons_append,List.nil_append,aN,aK,vM]
          repeat' (first
    |simp -implicitDefEqProofs (disch:=first|assumption|omega) only[aA,aC,facts,if_pos,if_neg,Nat.reduceAdd,Nat.reduceEqDiff,Nat.reduceLT,Nat.reduceLeDiff,gI,cO,List.flatMap_cons,List.flatMap_nil,AV.cells,AV.one,wrap_in,List.getElem?_eq_getElem,Pa.av,aT, *]
    |((with_reducible refine aF (fun _=>?_) (fun _=>?_))<;>try omega)
    | ((with_reducible refine aS 39 ?_);refine PC.useZ hF hpc (rfl) fun v hv=>?_;subst hv))
          refine dN (i+1) () hlt (by omega) (by omega) (bI 5 [(113,100),(101,101),(102,102),(103,103)]) (gK 5 [(113,100),(101,101),(102,102),(103,103)]) (dH.of_fit rfl rfl rfl) ?_ rfl rfl
          simp only[Lm,if_pos (show j0<i+1+1 by omega),bJ,List.cons_append,List.nil_append,aK,aN,vM]
          refine aG.cons 113 rfl rfl ?_ (aG.cons 101 rfl rfl (dO _ fun j _=>wI (f:=bI 5 [(113,100),(101,101),(102,102),(103,103)]) (q:=102) (q':=102) rfl _ _ j) (aG.cons 102 rfl rfl (dO _ fun j _=>oQ (f:=bI 5 [(113,100),(101,101),(102,102),(103,103)]) (q:=103) (q':=103) rfl _ _ j) (aG.cons 103 rfl rfl (gB _) aG.nil)))
          rw[fE (i:=i+1),List.map_append,dO (c':=lC 101 vs j0) (i+1) fun j hj=>Ll (f:=bI 5 [(113,100),(101,101),(102,102),(103,103)]) (q:=101) (q':=101) rfl vs j0 j];simp [lC,hij,hlt,AV.ren,bI]
        · simp only[dY,bJ,Lm,if_neg hjl,List.append_nil,aN,aK]
          repeat' (first
    |simp -implicitDefEqProofs (disch:=first|assumption|omega) only[aA,aC,facts,if_pos,Nat.reduceAdd,Nat.reduceEqDiff,Nat.reduceLT,Nat.reduceLeDiff,gI,cO,List.flatMap_cons,List.flatMap_nil,AV.cells,AV.one,wrap_in,List.getElem?_eq_getElem,Pa.av,aT, *]
    |((with_reducible refine aF (fun _=>?_) (fun _=>?_))<;>try omega)
    |((with_reducible refine aS 39 ?_);refine PC.useZ hF hpc (rfl) fun v hv=>?_;subst hv))
          refine dN (i+1) () hlt (by omega) (by omega) (bI 5 [(113,100)]) (gK 5 [(113,100)]) (dH.of_fit rfl rfl rfl) ?_ rfl rfl
          simp only[Lm,if_neg (show¬j0<i+1+1 by omega),bJ,List.append_nil,aK,aN]
          refine aG.cons 113 rfl rfl ?_ aG.nil
          rw[fE (i:=i+1),List.map_append,dO (c':=lC 101 vs j0) (i+1) fun j hj=>aCk vs j0 j (by omega)];simp [lC,hij,hlt,AV.ren,bI]
  · have:i=vs.length:=by omega
    subst this
    obtain⟨n,hn⟩: ∃n,vs.length=n+1:=⟨vs.length - 1,by omega⟩
    repeat' (first
    |simp -implicitDefEqProofs (disch:=first|assumption|omega) only[aA,aC,facts,Nat.reduceAdd,aT, *]
    |((with_reducible refine aF (fun _=>?_) (fun _=>?_))<;>try omega))
    refine vI.of [(100,0),(101,1),(102,2),(103,3)] rfl ?_ rfl
    simp only[Lm,if_pos (show j0<n+1 by omega),bJ,List.cons_append,List.nil_append,aK,aN,vM]
    exact aG.cons 100 rfl rfl (dO (n+1) fun j hj=>Ll (f:=bI 0 [(100,0),(101,1),(102,2),(103,3)]) (q:=101) (q':=1) rfl vs j0 j) (aG.cons 101 rfl rfl (dO _ fun j _=>wI (f:=bI 0 [(100,0),(101,1),(102,2),(103,3)]) (q:=102) (q':=2) rfl _ _ j) (aG.cons 102 rfl rfl (dO _ fun j _=>oQ (f:=bI 0 [(100,0),(101,1),(102,2),(103,3)]) (q:=103) (q':=3) rfl _ _ j) (aG.cons 103 rfl rfl (gB _) aG.nil)))
structure Sc.good (s:Sc):Prop where
 lo:0<s.parts.length
 hi:s.parts.length<=1000000
 pa: ∀p∈s.parts,p.good
 bh:s.bars.length<=1000000
 ba: ∀b∈s.bars,b.short
theorem uT (s:Sc) (h:s.good) (j0 b0 v0:Nat) (hj:j0<s.parts.length) (hb0:b0< (s.parts.getD j0 pa0).cells.length) (hv0:v0< ((s.parts.getD j0 pa0).cells.getD b0 []).length):
  Own Tryz.prog gl 16 [s.av] (.agg [.str s.title,.sl 14 (s.bars.map Ba.av) .none,.msl 0 0 s.parts.length 5]) ((0,aZ (lC 1 s.parts j0) s.parts.length)::paH 1 (s.parts.getD j0 pa0) b0 v0) 4:=by
 have hown:=aHa s.parts h.hi h.pa j0 b0 v0 hj hb0 hv0
 have hba:=aDy s.bars h.bh h.ba
 (refine Own.intro 2 mix names (fn:=Tryz.f16) Tryz.func16 rfl fun F hF hro W=>?_;simp only[Tryz.ntmps16,Tryz.results16,aJ,Nat.reduceAdd,Nat.reduceSub])
 repeat' (first
  |simp -implicitDefEqProofs (disch:=first|assumption|omega) only[aA,aC,facts,if_pos,Nat.reduceAdd,Nat.reduceLeDiff,AV.cells,AV.one,Sc.av,nC,eX,fH,aK,aN,gB,vT,yD,Gv,vM, *]
  |((with_reducible refine aS 38 ?_);refine vZ hF hro hown (rfl) ?_)
  |((with_reducible refine aS 37 ?_);refine PC.useZ hF hba (rfl) fun v hv=>?_;subst hv))
 exact vI.of [(8,0),(9,1),(10,2),(11,3)] rfl (aG.cons 8 rfl rfl (dO _ fun j _=>Ll (f:=bI 0 [(8,0),(9,1),(10,2),(11,3)]) (q:=9) (q':=1) rfl _ _ j) (aG.cons 9 rfl rfl (dO _ fun j _=>wI (f:=bI 0 [(8,0),(9,1),(10,2),(11,3)]) (q:=10) (q':=2) rfl _ _ j) (aG.cons 10 rfl rfl (dO _ fun j _=>oQ (f:=bI 0 [(8,0),(9,1),(10,2),(11,3)]) (q:=11) (q':=3) rfl _ _ j) (aG.cons 11 rfl rfl (gB _) aG.nil)))) rfl
theorem aJ7 {sty:Nat->Bool} {hp:Hp} {d kp qc qv qe:Nat} (s:Sc) (j0 b0 v0:Nat) (hj:j0<s.parts.length) (hb0:b0< (s.parts.getD j0 pa0).cells.length) (hv0:v0< ((s.parts.getD j0 pa0).cells.getD b0 []).length) (hs1:sty qc=false) (hs2:sty qv=true)
  (h1:hp kp=some (.cells (aZ (lC qc s.parts j0) s.parts.length))) (h2:hp qc=some (.cells (aZ (jG qv (s.parts.getD j0 pa0).cells b0) (s.parts.getD j0 pa0).cells.length)))
  (h3:hp qv=some (.cells (aZ (jU qe ((s.parts.getD j0 pa0).cells.getD b0 []) v0) ((s.parts.getD j0 pa0).cells.getD b0 []).length))) (h4:hp qe=some (.cells ((((s.parts.getD j0 pa0).cells.getD b0 []).getD v0 ⟨[]⟩).l.flatMap Ev.cells))):
  AV.nowS sty hp (d+5) (.agg [.str s.title,.sl 14 (s.bars.map Ba.av) .none,.msl kp 0 s.parts.length 5])=s.av:=by
 have hrow:(aZ (lC qc s.parts j0) s.parts.length).map (AV.nowS sty hp (d+3))=s.parts.flatMap Pa.cells5:=by
  rw[Bz (c':=fun j=>Pa.cells5 (s.parts.getD j pa0)) _ fun j hj'=>?_]
  ·exact Pe fun j hj'=>by rw[List.getD_eq_getElem?_getD,List.getElem?_eq_getElem hj'];rfl
  ·by_cases e:j=j0
   ·subst e
    simp only[lC,if_true,List.map_cons,List.map_nil]
    rw[aSj _ b0 v0 hb0 hv0 hs1 hs2 h2 h3 h4];rfl
   ·simp only[lC,if_neg e,List.map_cons,List.map_nil]
    rfl
 have hps:AV.nowS sty hp (d+4) (.msl kp 0 s.parts.length 5)= .sl 5 (s.parts.map Pa.av) .none:=by
  refine(pJ h1 (by decide) hrow (by rw[iG (k:=5) (fun _=>rfl)];omega) (kZ (fun _=>rfl) s.parts)).trans ?_
  rw[show(!(Nat.beq 5 1)||sty kp)=true from rfl,lI (c:=Pa.cells5) (k:=5) (fun _=>rfl) s.parts]
  rfl
 have:AV.nowS sty hp (d+5) (.agg [.str s.title,.sl 14 (s.bars.map Ba.av) .none,.msl kp 0 s.parts.length 5])= .agg [.str s.title,.sl 14 (s.bars.map Ba.av) .none,AV.nowS sty hp (d+4) (.msl kp 0 s.parts.length 5)]:=rfl
 rw[this,hps];rfl
theorem aMn (s:Sc) (h:s.good):PC Tryz.prog gl 16 [s.av] (fun v=>v=s.av):=by
 have hb0:0< (s.parts.getD 0 pa0).cells.length:=by
  rw[List.getD_eq_getElem?_getD,List.getElem?_eq_getElem h.lo];exact(h.pa _ (List.getElem_mem h.lo)).lo
 have hv0:0< ((s.parts.getD 0 pa0).cells.getD 0 []).length:=by
  have hp:(s.parts.getD 0 pa0).good:=by
   rw[List.getD_eq_getElem?_getD,List.getElem?_eq_getElem h.lo];exact h.pa _ (List.getElem_mem h.lo)
  rw[List.getD_eq_getElem?_getD (l:=(s.parts.getD 0 pa0).cells),List.getElem?_eq_getElem hb0];exact(hp.ce _ (List.getElem_mem hb0)).lo
 exact PC.of_ownS (sty:=fun k=>k==2) (uT s h 0 0 0 h.lo hb0 hv0) 5 (aJ7 (d:=0) s 0 0 0 h.lo hb0 hv0 rfl rfl rfl rfl rfl rfl)
end Go.Proofs.Pv
