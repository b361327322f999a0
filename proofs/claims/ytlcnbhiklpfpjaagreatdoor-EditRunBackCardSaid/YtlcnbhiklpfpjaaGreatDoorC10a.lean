/-
Layer 9's edits: copies whose lists of cells and of dynamics stay open, for all parts; all below is frozen.
Conditions: none but those that each statement names.
-/
import Derived.Test.YtlcnbhiklpfpjaaGreatDoorC09e
import Derived.Test.YtlcnbhiklpfpjaaGreatDoorC09i
set_option linter.unusedVariables false
set_option linter.unusedSimpArgs false
set_option maxRecDepth 100000
set_option maxHeartbeats 16000000
namespace Go.Proofs.Pv
open Go Go.Proofs
def Vo.short (v:Vo):Prop:=v.l.length<=1000000/\ ∀e∈v.l,e.short
def wY (c:List Vo):Prop:=c.length<=1000000/\ ∀v∈c,v.short
def fC (v:Vo):List AV:=[.sl 9 (v.l.map Ev.av) .none]
def fF (c:List Vo):List AV:=[bU c]
theorem Eb (vs:List Vo) (h:wY vs):Own Tryz.prog gl 41 [.sl 1 (vs.map Vo.av) .none] (iR 0 1 vs.length) (jI 0 (vs.flatMap fC) vs.length) 1:=by
  have hl:=h.1
  (refine Own.intro 2 mix names (fn:=Tryz.f41) Tryz.func41 rfl fun F hF hro W=>?_;simp only[Tryz.ntmps41,Tryz.results41,aJ,Nat.reduceAdd,Nat.reduceSub])
  repeat' (simp -implicitDefEqProofs (maxSteps:=9999999) (disch:=first|assumption|omega) only[aA,aC,facts,Nat.reduceAdd, *])
  refine jV (fD 21 [3,6,7,8]) 101 vs.length (fun i (_:Unit)=>⟨[.ud,.ud,.ud,iR 100 1 i,.ud,.ud,.sl 1 (vs.map Vo.av) .none,.int .i64 (vs.length:Nat),.int .i64 (i:Nat),.ud,.ud,.ud,.ud,.ud,.ud,.ud,.ud,.ud,.ud,.ud,.ud],[]⟩) (fun i _=>⟨hC (jI 100 ((vs.take i).flatMap fC) i),101⟩) (fun i _=>i<1000001) ⟨(),by omega,bI 5 [],gK 5 [],dH.of_fit rfl rfl rfl,aG.nil,rfl,rfl⟩ ?_
  rintro i x hi hi2
  rcases Nat.lt_or_ge i vs.length with hlt|hge
  · have hv:=h.2 vs[i] (List.getElem_mem hlt)
    have hpc:=Xi vs[i].l hv.1 hv.2
    rcases i with _|i
    · simp only[iR,jI,hC,List.map_nil]
      repeat' (first
    |simp -implicitDefEqProofs (maxSteps:=9999999) (disch:=first|assumption|omega) only[aA,aC,facts,if_pos,Nat.reduceAdd,Nat.reduceLT,Nat.reduceLeDiff,Int.reduceLE,Int.reduceAdd,gI,cO,List.flatMap_cons,List.flatMap_nil,AV.cells,true_or,AV.one,wrap_in,List.getElem?_eq_getElem,Vo.av,aT, *]
    |((with_reducible refine aF (fun _=>?_) (fun _=>?_))<;>try omega)
    | ((with_reducible refine aS 52 ?_);refine PC.useZ hF hpc (rfl) fun v hv=>?_;subst hv))
      refine dN 0 () hlt (by omega) (by omega) (bI 5 [(111,100)]) (gK 5 [(111,100)]) (dH.of_fit rfl rfl rfl) ?_ rfl rfl
      refine aG.cons 111 rfl rfl ?_ aG.nil
      rw[jX hlt];rfl
    · have hfl:((vs.take (i+1)).flatMap fC).length=(i+1):=by rw[flat_length (k:=1) (fun _=>rfl),List.length_take];omega
      simp only[iR,jI,hC,List.map_cons,List.map_nil]
      repeat' (first
    |simp -implicitDefEqProofs (maxSteps:=9999999) (disch:=first|assumption|omega) only[aA,aC,facts,if_pos,Nat.reduceAdd,Nat.reduceEqDiff,Nat.reduceLT,Nat.reduceLeDiff,gI,cO,List.flatMap_cons,List.flatMap_nil,AV.cells,AV.one,wrap_in,List.getElem?_eq_getElem,Vo.av,aT, *]
    |((with_reducible refine aF (fun _=>?_) (fun _=>?_))<;>try omega)
    | ((with_reducible refine aS 52 ?_);refine PC.useZ hF hpc (rfl) fun v hv=>?_;subst hv))
      refine dN (i+1) () hlt (by omega) (by omega) (bI 5 [(111,100)]) (gK 5 [(111,100)]) (dH.of_fit rfl rfl rfl) ?_ rfl rfl
      refine aG.cons 111 rfl rfl ?_ aG.nil
      rw[jX hlt,List.map_append]
      rw[jR (c:=fC) (fun _=>rfl)];rfl
  · have:i=vs.length:=by omega
    subst this
    repeat' (first
    |simp -implicitDefEqProofs (maxSteps:=9999999) (disch:=first|assumption|omega) only[aA,aC,facts,Nat.reduceAdd,aT, *]
    |((with_reducible refine aF (fun _=>?_) (fun _=>?_))<;>try omega))
    rw[List.take_length]
    exact Nu fun f=>jR (c:=fC) (fun _=>rfl) vs
theorem aFk (vs:List Vo) (h:wY vs):PC Tryz.prog gl 41 [.sl 1 (vs.map Vo.av) .none] (fun v=>v= .sl 1 (vs.map Vo.av) .none):=by
 refine PC.of_ownS (sty:=fun _=>true) (Eb vs h) 2 ?_
 cases vs with
 |nil=>rfl
 |cons x l=>
  refine(pJ (cs:=(x::l).flatMap fC) rfl (by decide) (lV (c:=fC) (fun _=>rfl) _) (by rw[flat_length (k:=1) (fun _=>rfl)];simp) (kZ (fun _=>rfl) _)).trans ?_
  have:=lI (c:=fC) (k:=1) (fun _=>rfl) (x::l)
  simp only[List.length_cons] at this
  rw[Bool.or_true,this]
  rfl
theorem aQo (c:List Vo) (h:wY c):PC Tryz.prog gl 41 [bU c] (fun v=>v=bU c):=aFk c h
theorem Ti (l:List (List Vo)) (hl:l.length<=1000000) (hs: ∀c∈l,wY c):Own Tryz.prog gl 40 [.sl 1 (l.map bU) .none,.fn 41 [] []] (iR 0 1 l.length) (jI 0 (l.flatMap fF) l.length) 1:=by
  (refine Own.intro 2 mix names (fn:=Tryz.f40) Tryz.func40 rfl fun F hF hro W=>?_;simp only[Tryz.ntmps40,Tryz.results40,aJ,Nat.reduceAdd,Nat.reduceSub])
  repeat' (simp -implicitDefEqProofs (maxSteps:=9999999) (disch:=first|assumption|omega) only[aA,aC,facts,Nat.reduceAdd, *])
  refine jV (fD 22 [1,5,8,9,10]) 101 l.length (fun i (_:Unit)=>⟨[.ud,.fn 41 [] [],.ud,.ud,.ud,iR 100 1 i,.ud,.ud,.sl 1 (l.map bU) .none,.int .i64 (l.length:Nat),.int .i64 (i:Nat),.ud,.ud,.ud,.ud,.ud,.ud,.ud,.ud,.ud,.ud,.ud],[]⟩) (fun i _=>⟨hC (jI 100 ((l.take i).flatMap fF) i),101⟩) (fun i _=>i<1000001) ⟨(),by omega,bI 5 [],gK 5 [],dH.of_fit rfl rfl rfl,aG.nil,rfl,rfl⟩ ?_
  rintro i x hi hi2
  rcases Nat.lt_or_ge i l.length with hlt|hge
  · have hpc:=aQo l[i] (hs l[i] (List.getElem_mem hlt))
    rcases i with _|i
    · simp only[iR,jI,hC,List.map_nil]
      repeat' (first
    |simp -implicitDefEqProofs (maxSteps:=9999999) (disch:=first|assumption|omega) only[aA,aC,facts,if_pos,Nat.reduceAdd,Nat.reduceLT,Nat.reduceLeDiff,Int.reduceLE,Int.reduceAdd,gI,cO,List.flatMap_cons,List.flatMap_nil,AV.cells,true_or,AV.one,wrap_in,List.getElem?_eq_getElem,bU,aT, *]
    |((with_reducible refine aF (fun _=>?_) (fun _=>?_))<;>try omega)
    | ((with_reducible refine aS 41 ?_);refine PC.useZ hF hpc (rfl) fun v hv=>?_;subst hv))
      refine dN 0 () hlt (by omega) (by omega) (bI 5 [(109,100)]) (gK 5 [(109,100)]) (dH.of_fit rfl rfl rfl) ?_ rfl rfl
      refine aG.cons 109 rfl rfl ?_ aG.nil
      rw[jX hlt];rfl
    · have hfl:((l.take (i+1)).flatMap fF).length=(i+1):=by rw[flat_length (k:=1) (fun _=>rfl),List.length_take];omega
      simp only[iR,jI,hC,List.map_cons,List.map_nil]
      repeat' (first
    |simp -implicitDefEqProofs (maxSteps:=9999999) (disch:=first|assumption|omega) only[aA,aC,facts,if_pos,Nat.reduceAdd,Nat.reduceLT,Nat.reduceLeDiff,gI,cO,List.flatMap_cons,List.flatMap_nil,AV.cells,AV.one,wrap_in,List.getElem?_eq_getElem,bU,aT, *]
    |((with_reducible refine aF (fun _=>?_) (fun _=>?_))<;>try omega)
    | ((with_reducible refine aS 41 ?_);refine PC.useZ hF hpc (rfl) fun v hv=>?_;subst hv))
      refine dN (i+1) () hlt (by omega) (by omega) (bI 5 [(109,100)]) (gK 5 [(109,100)]) (dH.of_fit rfl rfl rfl) ?_ rfl rfl
      refine aG.cons 109 rfl rfl ?_ aG.nil
      rw[jX hlt,List.map_append]
      rw[jR (c:=fF) (fun _=>rfl)];rfl
  · have:i=l.length:=by omega
    subst this
    repeat' (first
    |simp -implicitDefEqProofs (maxSteps:=9999999) (disch:=first|assumption|omega) only[aA,aC,facts,Nat.reduceAdd,aT, *]
    |((with_reducible refine aF (fun _=>?_) (fun _=>?_))<;>try omega))
    rw[List.take_length]
    exact Nu fun f=>jR (c:=fF) (fun _=>rfl) l
structure Pa.shortB (p:Pa):Prop where
 ch:p.cells.length<=1000000
 ce: ∀c∈p.cells,wY c
 dh:p.dyns.length<=1000000
 dy: ∀d∈p.dyns,d.length<=1000000
theorem uX {f:Nat->Option Nat} (l:List (List Vo)):(l.flatMap fF).map (AV.ren f)=l.flatMap fF:=jR (c:=fF) (fun _=>rfl) l
theorem nU {f:Nat->Option Nat} (l:List (List Dy)):(l.flatMap fP).map (AV.ren f)=l.flatMap fP:=jR (c:=fP) (fun _=>rfl) l
theorem nV {f:Nat->Option Nat} (l:List Ba):(l.flatMap Ba.cells).map (AV.ren f)=l.flatMap Ba.cells:=jR (c:=Ba.cells) (fun _=>rfl) l
theorem aV8 (CA CB CV P:List AV) (a b m c:Nat) (hA:CA.length=a*14) (hB:CB.length=b*14) (hV:CV.length=(m+1)*14) (hPl:P.length=c*14 - (a+b)*14) (oA:CA.all AV.one=true) (oB:CB.all AV.one=true) (oV:CV.all AV.one=true) (hbd:a+b+(m+1)<=1000000) (hc:a+b<=c) (hcap:a+b+(m+1)<=c) (hb:b=0) (rA: ∀f,CA.map (AV.ren f)=CA) (rB: ∀f,CB.map (AV.ren f)=CB) (rV: ∀f,CV.map (AV.ren f)=CV):
  dE Tryz.prog gl 55 [.mcap 0 0 (a+b) c 14,.int .i64 (a:Nat),.msl 1 0 (m+1) 14] [(0,.cells (CA++CB++P)),(1,.cells CV)] 2 (.msl 0 0 (a+(m+1)+b) 14) [(0,CA++CV++CB)] 1:=by
 subst hb
 have hTV:List.take ((m+1)*14) CV=CV:=List.take_of_length_le (by omega)
 have hm1:(((m+1:Nat):Int)==0)=false:=by simp;omega
 have hlen:(CA++CB++P).length=c*14:=by simp [hA,hB,hPl];omega
 have hTA:List.take (a*14) (CA++CB++P)=CA:=by rw[List.append_assoc,List.take_left' hA]
 refine dE.intro 1 mix names (fn:=Tryz.f55) Tryz.func55 rfl fun F hF hro W=>?_
 simp only[Tryz.ntmps55,Tryz.results55,aJ,Nat.reduceAdd,Nat.reduceSub,aX,aY,aK,aN]
 repeat' (first
  |simp -implicitDefEqProofs (maxSteps:=9999999) only[aA,aC,facts,Nat.reduceAdd,Option.map_none,bnd, *]
  |simp -implicitDefEqProofs (maxSteps:=9999999) (disch:=first|assumption|omega) only[aA,aC,facts,if_pos,Nat.reduceAdd,Nat.reduceEqDiff,Nat.reduceLT,kE,cO,fB,splice, *])
 have hCB:CB=[]:=List.eq_nil_of_length_eq_zero (by omega)
 exact gW.one (cs:=CA++CV++CB) (rest:=List.drop (a*14+(m+1)*14) (CA++CB++P)) (by rw[hCB];simp [hget]) (by rw[List.map_append,List.map_append,rA,rB,rV])
theorem aV9 (CA CB CV P:List AV) (a b m c:Nat) (hA:CA.length=a*14) (hB:CB.length=b*14) (hV:CV.length=(m+1)*14) (hPl:P.length=c*14 - (a+b)*14) (oA:CA.all AV.one=true) (oB:CB.all AV.one=true) (oV:CV.all AV.one=true) (hbd:a+b+(m+1)<=1000000) (hc:a+b<=c) (hcap: ¬a+b+(m+1)<=c) (hb:b=0) (rA: ∀f,CA.map (AV.ren f)=CA) (rB: ∀f,CB.map (AV.ren f)=CB) (rV: ∀f,CV.map (AV.ren f)=CV):
  dE Tryz.prog gl 55 [.mcap 0 0 (a+b) c 14,.int .i64 (a:Nat),.msl 1 0 (m+1) 14] [(0,.cells (CA++CB++P)),(1,.cells CV)] 2 (.msl 0 0 (a+(m+1)+b) 14) [(0,CA++CV++CB)] 1:=by
 subst hb
 have hTV:List.take ((m+1)*14) CV=CV:=List.take_of_length_le (by omega)
 have hm1:(((m+1:Nat):Int)==0)=false:=by simp;omega
 have hlen:(CA++CB++P).length=c*14:=by simp [hA,hB,hPl];omega
 have hTA:List.take (a*14) (CA++CB++P)=CA:=by rw[List.append_assoc,List.take_left' hA]
 refine dE.intro 1 mix names (fn:=Tryz.f55) Tryz.func55 rfl fun F hF hro W=>?_
 simp only[Tryz.ntmps55,Tryz.results55,aJ,Nat.reduceAdd,Nat.reduceSub,aX,aY,aK,aN]
 repeat' (first
  |simp -implicitDefEqProofs (maxSteps:=9999999) only[aA,aC,facts,Nat.reduceAdd,Option.map_none,bnd, *]
  |simp -implicitDefEqProofs (maxSteps:=9999999) (disch:=first|assumption|omega) only[aA,aC,facts,if_pos,if_neg,Nat.reduceAdd,Nat.reduceEqDiff,Nat.reduceLT,kE,cO,fB,splice, *])
 have hCB:CB=[]:=List.eq_nil_of_length_eq_zero (by omega)
 exact gW.oneM (cs:=CA++CV++CB) (rest:=[]) (by rw[hCB];simp [hget]) (by rw[List.map_append,List.map_append,rA,rB,rV])
theorem aWa (CA CB CV P:List AV) (a b m c:Nat) (hA:CA.length=a*14) (hB:CB.length=b*14) (hV:CV.length=(m+1)*14) (hPl:P.length=c*14 - (a+b)*14) (oA:CA.all AV.one=true) (oB:CB.all AV.one=true) (oV:CV.all AV.one=true) (hbd:a+b+(m+1)<=1000000) (hc:a+b<=c) (hcap:a+b+(m+1)<=c) (hb:0<b) (rA: ∀f,CA.map (AV.ren f)=CA) (rB: ∀f,CB.map (AV.ren f)=CB) (rV: ∀f,CV.map (AV.ren f)=CV):
  dE Tryz.prog gl 55 [.mcap 0 0 (a+b) c 14,.int .i64 (a:Nat),.msl 1 0 (m+1) 14] [(0,.cells (CA++CB++P)),(1,.cells CV)] 2 (.msl 0 0 (a+(m+1)+b) 14) [(0,CA++CV++CB)] 1:=by
 skip
 have hTV:List.take ((m+1)*14) CV=CV:=List.take_of_length_le (by omega)
 have hm1:(((m+1:Nat):Int)==0)=false:=by simp;omega
 have hz2:((a:Nat):Int)+((m+1:Nat):Int)=((a+(m+1):Nat):Int):=by omega
 have hz3:((a+b:Nat):Int)+((m+1:Nat):Int)=((a+b+(m+1):Nat):Int):=by omega
 have hn1:a+b+(m+1) - (a+(m+1))=b:=by omega
 have hn2:a+b+(m+1) - a=b+(m+1):=by omega
 have hq1:min (b+(m+1)) b=b:=by omega
 have hq2:min (m+1) (b+(m+1))=m+1:=by omega
 have hDA:List.drop (a*14) (CA++CB++P)=CB++P:=by rw[List.append_assoc,List.drop_left' hA]
 have hTT:List.take (b*14) (List.take ((b+(m+1))*14) (CB++P))=CB:=by rw[List.take_take,show min (b*14) ((b+(m+1))*14)=b*14 by omega,List.take_left' hB]
 have hab:(((a:Nat):Int)==((a+b:Nat):Int))=false:=by simp;omega
 refine dE.intro 1 mix names (fn:=Tryz.f55) Tryz.func55 rfl fun F hF hro W=>?_
 simp only[Tryz.ntmps55,Tryz.results55,aJ,Nat.reduceAdd,Nat.reduceSub,aX,aY,aK,aN]
 repeat' (first
  |simp -implicitDefEqProofs (maxSteps:=9999999) only[↓reduceIte,aA,aC,facts,Nat.reduceAdd,Option.map_none,bnd,Nat.add_sub_cancel_left, *]
  |simp -implicitDefEqProofs (maxSteps:=9999999) (disch:=first|assumption|omega) only[aA,aC,facts,if_pos,if_neg,Nat.reduceAdd,Nat.reduceEqDiff,Int.reduceLE,Option.map_none,bnd,Nat.zero_mul,Nat.sub_zero,Option.isSome_some,wrap_in,cO,sQ,splice,pF,List.length_append,List.length_take,List.length_drop,AV.keysOf,List.flatMap_cons,List.flatMap_nil, *]
  |((with_reducible refine aF (fun _=>?_) (fun _=>?_))<;>try omega)
  |((with_reducible refine aO ?_);refine jH (by decide+kernel) ?_)
  |((with_reducible refine dP ?_ ?_);· decide+kernel)
  |((with_reducible refine aS 94 ?_);refine Ls (zA (fn:=Tryz.f94) (t:=22) (r:=4) (e:=75) (k:=14) Tryz.func94 (by kernel_rfl) (by kernel_rfl) (by kernel_rfl) (by kernel_rfl) Tryz.underlying22 sz75 (q1:=1) (q2:=0) (cs1:=CV) (cs2:=CA++CB++P) rfl rfl (by decide) (by simp only[List.length_append];omega) Lj Gi ?_)))
 obtain⟨Z,hZ1,hZ2⟩: ∃Z,List.take ((a+(m+1))*14) (CA++CB++P)=CA++Z/\Z.length=(m+1)*14:=by
  refine⟨List.take ((m+1)*14) (CB++P),?_,by simp only[List.length_take,List.length_append];omega⟩
  rw[List.append_assoc,show(a+(m+1))*14=CA.length+(m+1)*14 by omega,List.take_length_add_append]
 rw[hZ1,show a+b+(m+1)=a+(m+1)+b by omega]
 generalize List.drop ((a+(m+1))*14+b*14) (CA++CB++P)=D
 rw[show List.take (a*14) (CA++Z++CB++D)=CA by rw[List.append_assoc,List.append_assoc,List.take_left' hA],show List.drop (a*14+(m+1)*14) (CA++Z++CB++D)=CB++D by rw[List.append_assoc,List.drop_left' (by simp only[List.length_append];omega)]]
 exact gW.one (cs:=CA++CV++CB) (rest:=D) (by simp [hget]) (by rw[List.map_append,List.map_append,rA,rB,rV])
theorem aWb (CA CB CV P:List AV) (a b m c:Nat) (hA:CA.length=a*14) (hB:CB.length=b*14) (hV:CV.length=(m+1)*14) (hPl:P.length=c*14 - (a+b)*14) (oA:CA.all AV.one=true) (oB:CB.all AV.one=true) (oV:CV.all AV.one=true) (hbd:a+b+(m+1)<=1000000) (hc:a+b<=c) (hcap: ¬a+b+(m+1)<=c) (hb:0<b) (rA: ∀f,CA.map (AV.ren f)=CA) (rB: ∀f,CB.map (AV.ren f)=CB) (rV: ∀f,CV.map (AV.ren f)=CV):
  dE Tryz.prog gl 55 [.mcap 0 0 (a+b) c 14,.int .i64 (a:Nat),.msl 1 0 (m+1) 14] [(0,.cells (CA++CB++P)),(1,.cells CV)] 2 (.msl 0 0 (a+(m+1)+b) 14) [(0,CA++CV++CB)] 1:=by
 skip
 have hTV:List.take ((m+1)*14) CV=CV:=List.take_of_length_le (by omega)
 have hm1:(((m+1:Nat):Int)==0)=false:=by simp;omega
 have hz2:((a:Nat):Int)+((m+1:Nat):Int)=((a+(m+1):Nat):Int):=by omega
 have hz3:((a+b:Nat):Int)+((m+1:Nat):Int)=((a+b+(m+1):Nat):Int):=by omega
 have hz4:((a+b+(m+1):Nat):Int) - (a:Int)=((b+(m+1):Nat):Int):=by omega
 have hn3:a+(b+(m+1)) - a=b+(m+1):=by omega
 have hn4:a+(b+(m+1)) - (a+(m+1))=b:=by omega
 have hq2:min (m+1) (b+(m+1))=m+1:=by omega
 have hDA:List.drop (a*14) (CA++CB++P)=CB++P:=by rw[List.append_assoc,List.drop_left' hA]
 have hTA:List.take (a*14) (CA++CB++P)=CA:=by rw[List.append_assoc,List.take_left' hA]
 have hTB:List.take (b*14) (CB++P)=CB:=List.take_left' hB
 have hZ: ∀n,(List.replicate n [AV.int .i64 0,AV.int .i64 0,AV.sl 1 [] .full,AV.int .i64 0,AV.bool false,AV.bool false,AV.int .i64 0,AV.sl 1 [] .full,AV.bool false,AV.bool false,AV.bool false,AV.bool false,AV.int .i64 0,AV.sl 4 [] .full]).flatten.length=n*14:=by intro n;simp
 have hab:(((a:Nat):Int)==((a+b:Nat):Int))=false:=by simp;omega
 refine dE.intro 1 mix names (fn:=Tryz.f55) Tryz.func55 rfl fun F hF hro W=>?_
 simp only[Tryz.ntmps55,Tryz.results55,aJ,Nat.reduceAdd,Nat.reduceSub,aX,aY,aK,aN]
 repeat' (first
  |simp -implicitDefEqProofs (maxSteps:=9999999) only[↓reduceIte,aA,aC,facts,Nat.reduceAdd,Option.map_none,bnd,Nat.add_sub_cancel_left, *]
  |simp -implicitDefEqProofs (maxSteps:=9999999) (disch:=first|assumption|omega) only[aA,aC,facts,if_pos,if_neg,Nat.reduceAdd,Nat.reduceEqDiff,Nat.reduceLT,Int.reduceLE,Option.map_none,bnd,Nat.zero_mul,Nat.sub_zero,Option.isSome_some,Nat.add_sub_cancel_left,wrap_in,Ag,cO,sQ,splice,pF,List.length_append,List.length_take,List.length_drop,Nat.min_self,AV.keysOf,List.flatMap_cons,List.flatMap_nil, *]
  |((with_reducible refine aF (fun _=>?_) (fun _=>?_))<;>try omega)
  |((with_reducible refine aO ?_);refine jH (by decide+kernel) ?_)
  |((with_reducible refine dP ?_ ?_);· decide+kernel))
 generalize hY:(List.replicate (b+(m+1)) [AV.int .i64 0,AV.int .i64 0,AV.sl 1 [] .full,AV.int .i64 0,AV.bool false,AV.bool false,AV.int .i64 0,AV.sl 1 [] .full,AV.bool false,AV.bool false,AV.bool false,AV.bool false,AV.int .i64 0,AV.sl 4 [] .full]).flatten=Y
 have hYl:Y.length=(b+(m+1))*14:=by rw[<-hY,hZ]
 rw[show List.take (a*14) (CA++Y)=CA from List.take_left' hA]
 have hD:List.drop (a*14+(m+1)*14) (CA++Y)=List.drop ((m+1)*14) Y:=by rw[<-hA,List.drop_length_add_append]
 rw[hD,List.take_of_length_le (l:=CB) (by omega),List.take_left' (by simp only[List.length_append];omega),List.drop_of_length_le (by simp only[List.length_append,List.length_drop];omega),show a+(m+1)+b=a+(b+(m+1)) by omega]
 exact gW.oneM (cs:=CA++CV++CB) (rest:=[]) (by simp [hget]) (by rw[List.map_append,List.map_append,rA,rB,rV])
theorem aWc (CA CB:List AV) (a b:Nat) (hl:CA.length=a*14) (rA: ∀f,(CA++CB).map (AV.ren f)=CA++CB):
  dE Tryz.prog gl 55 [.msl 0 0 (a+b) 14,.int .i64 (a:Nat),.sl 14 [] .mut] [(0,.cells (CA++CB))] 2 (.msl 0 0 (a+b) 14) [(0,CA++CB)] 1:=by
 generalize CA++CB=X at rA ⊢
 clear hl
 refine dE.intro 1 mix names (fn:=Tryz.f55) Tryz.func55 rfl fun F hF hro W=>?_
 simp only[Tryz.ntmps55,Tryz.results55,aJ,Nat.reduceAdd,Nat.reduceSub,aX,aY,aK,aN]
 rcases Nat.eq_zero_or_pos b with hb|hb
 ·subst hb
  repeat' (first
  |simp -implicitDefEqProofs (maxSteps:=9999999) only[aA,aC,facts,Nat.reduceAdd,Option.map_none,bnd, *]
  |simp -implicitDefEqProofs (maxSteps:=9999999) (disch:=first|assumption|omega) only[aA,aC,facts,if_pos,if_neg,Nat.reduceAdd, *])
  exact gW.oneM (cs:=X) (rest:=[]) (by simp [hget]) (rA _)
 ·repeat' (first
  |simp -implicitDefEqProofs (maxSteps:=9999999) only[aA,aC,facts,Nat.reduceAdd,Option.map_none,bnd,Nat.add_sub_cancel_left, *]
  |simp -implicitDefEqProofs (maxSteps:=9999999) (disch:=first|assumption|omega) only[aA,aC,facts,if_pos,Nat.reduceAdd, *])
  exact gW.oneM (cs:=X) (rest:=[]) (by simp [hget]) (rA _)
theorem aD8 (CA CB CV:List AV) (a b m:Nat) (hA:CA.length=a*14) (hB:CB.length=b*14) (hV:CV.length=m*14) (oA:CA.all AV.one=true) (oB:CB.all AV.one=true) (oV:CV.all AV.one=true) (rA: ∀f,CA.map (AV.ren f)=CA) (rB: ∀f,CB.map (AV.ren f)=CB) (rV: ∀f,CV.map (AV.ren f)=CV)
  (hbd:a+b+m<=1000000):dE Tryz.prog gl 55 [.msl 0 0 (a+b) 14,.int .i64 (a:Nat),iR 1 14 m] (hC ((0,CA++CB)::jI 1 CV m)) 2 (.msl 0 0 (a+m+b) 14) [(0,CA++CV++CB)] 1:=by
 cases m with
 |zero=>
  have hv0:CV=[]:=List.eq_nil_of_length_eq_zero (by omega)
  subst hv0
  rw[List.append_nil]
  exact aWc CA CB a b hA (fun f=>by rw[List.map_append,rA,rB])
 |succ m=>
  simp only[dY,bJ,aK,aN]
  refine dE.cap (cs:=CA++CB) (by simp [hget]) fun c hc=>?_
  rw[yY]
  have hPl:(List.replicate (c*14 - (CA++CB).length) AV.ud).length=c*14 - (a+b)*14:=by rw[List.length_replicate,List.length_append,hA,hB];omega
  by_cases hcap:a+b+(m+1)<=c<;>rcases Nat.eq_zero_or_pos b with hb|hb
  ·exact aV8 CA CB CV _ a b m c hA hB hV hPl oA oB oV hbd hc hcap hb rA rB rV
  ·exact aWa CA CB CV _ a b m c hA hB hV hPl oA oB oV hbd hc hcap hb rA rB rV
  ·exact aV9 CA CB CV _ a b m c hA hB hV hPl oA oB oV hbd hc hcap hb rA rB rV
  ·exact aWb CA CB CV _ a b m c hA hB hV hPl oA oB oV hbd hc hcap hb rA rB rV
theorem insAX {fI:FuncId} {z:AV} (hfI:(fI=56/\z= .sl 1 [] .full)\/(fI=57/\z= .sl 4 [] .full)\/(fI=64/\z= .sl 9 [] .full)) (CA CB CV P:List AV) (a b m c:Nat) (hA:CA.length=a) (hB:CB.length=b) (hV:CV.length=(m+1)) (hPl:P.length=c - (a+b)) (oA:CA.all AV.one=true) (oB:CB.all AV.one=true) (oV:CV.all AV.one=true) (hbd:a+b+(m+1)<=1000000) (hc:a+b<=c) (hcap:a+b+(m+1)<=c) (hb:b=0) (rA: ∀f,CA.map (AV.ren f)=CA) (rB: ∀f,CB.map (AV.ren f)=CB) (rV: ∀f,CV.map (AV.ren f)=CV):
   dE Tryz.prog gl fI [.mcap 0 0 (a+b) c 1,.int .i64 (a:Nat),.msl 1 0 (m+1) 1] [(0,.cells (CA++CB++P)),(1,.cells CV)] 2 (.msl 0 0 (a+(m+1)+b) 1) [(0,CA++CV++CB)] 1:=by
 subst hb
 have hTV:List.take ((m+1)) CV=CV:=List.take_of_length_le (by omega)
 have hm1:(((m+1:Nat):Int)==0)=false:=by simp;omega
 have hlen:(CA++CB++P).length=c:=by simp [hA,hB,hPl];omega
 have hTA:List.take (a) (CA++CB++P)=CA:=by rw[List.append_assoc,List.take_left' hA]
 rcases hfI with⟨rfl,hz⟩|⟨rfl,hz⟩|⟨rfl,hz⟩
 all_goals first
   |(refine dE.intro 1 mix names (fn:=Tryz.f56) Tryz.func56 rfl fun F hF hro W=>?_;simp only[Tryz.ntmps56,Tryz.results56,aJ,Nat.reduceAdd,Nat.reduceSub,aX,aY,aK,aN])
   |(refine dE.intro 1 mix names (fn:=Tryz.f57) Tryz.func57 rfl fun F hF hro W=>?_;simp only[Tryz.ntmps57,Tryz.results57,aJ,Nat.reduceAdd,Nat.reduceSub,aX,aY,aK,aN])
   |(refine dE.intro 1 mix names (fn:=Tryz.f64) Tryz.func64 rfl fun F hF hro W=>?_;simp only[Tryz.ntmps64,Tryz.results64,aJ,Nat.reduceAdd,Nat.reduceSub,aX,aY,aK,aN])
 all_goals
  repeat' (first
   |simp -implicitDefEqProofs (maxSteps:=9999999) only[↓reduceIte,aA,aC,facts,Nat.reduceAdd,Nat.reduceEqDiff,Nat.reduceLT,Int.reduceLE,Option.map_none,bnd,Nat.sub_zero,Option.isSome_some,Nat.add_sub_cancel_left,wrap_in,kE,cO,fB,splice, *]
   |simp -implicitDefEqProofs (maxSteps:=9999999) (disch:=first|assumption|omega) only[aA,aC,facts,if_pos,if_neg,Nat.reduceAdd,Nat.reduceEqDiff,Nat.reduceLT,Int.reduceLE,Option.map_none,bnd,Nat.sub_zero,Option.isSome_some,Nat.add_sub_cancel_left,wrap_in,kE,cO,fB,splice, *])
  have hCB:CB=[]:=List.eq_nil_of_length_eq_zero (by omega)
  exact gW.one (cs:=CA++CV++CB) (rest:=List.drop (a+(m+1)) (CA++CB++P)) (by rw[hCB];simp [hget]) (by rw[List.map_append,List.map_append,rA,rB,rV])
theorem insCX {fI:FuncId} {z:AV} (hfI:(fI=56/\z= .sl 1 [] .full)\/(fI=57/\z= .sl 4 [] .full)\/(fI=64/\z= .sl 9 [] .full)) (CA CB CV P:List AV) (a b m c:Nat) (hA:CA.length=a) (hB:CB.length=b) (hV:CV.length=(m+1)) (hPl:P.length=c - (a+b)) (oA:CA.all AV.one=true) (oB:CB.all AV.one=true) (oV:CV.all AV.one=true) (hbd:a+b+(m+1)<=1000000) (hc:a+b<=c) (hcap: ¬a+b+(m+1)<=c) (hb:b=0) (rA: ∀f,CA.map (AV.ren f)=CA) (rB: ∀f,CB.map (AV.ren f)=CB) (rV: ∀f,CV.map (AV.ren f)=CV):
   dE Tryz.prog gl fI [.mcap 0 0 (a+b) c 1,.int .i64 (a:Nat),.msl 1 0 (m+1) 1] [(0,.cells (CA++CB++P)),(1,.cells CV)] 2 (.msl 0 0 (a+(m+1)+b) 1) [(0,CA++CV++CB)] 1:=by
 subst hb
 have hTV:List.take ((m+1)) CV=CV:=List.take_of_length_le (by omega)
 have hm1:(((m+1:Nat):Int)==0)=false:=by simp;omega
 have hlen:(CA++CB++P).length=c:=by simp [hA,hB,hPl];omega
 have hTA:List.take (a) (CA++CB++P)=CA:=by rw[List.append_assoc,List.take_left' hA]
 rcases hfI with⟨rfl,hz⟩|⟨rfl,hz⟩|⟨rfl,hz⟩
 all_goals first
   |(refine dE.intro 1 mix names (fn:=Tryz.f56) Tryz.func56 rfl fun F hF hro W=>?_;simp only[Tryz.ntmps56,Tryz.results56,aJ,Nat.reduceAdd,Nat.reduceSub,aX,aY,aK,aN])
   |(refine dE.intro 1 mix names (fn:=Tryz.f57) Tryz.func57 rfl fun F hF hro W=>?_;simp only[Tryz.ntmps57,Tryz.results57,aJ,Nat.reduceAdd,Nat.reduceSub,aX,aY,aK,aN])
   |(refine dE.intro 1 mix names (fn:=Tryz.f64) Tryz.func64 rfl fun F hF hro W=>?_;simp only[Tryz.ntmps64,Tryz.results64,aJ,Nat.reduceAdd,Nat.reduceSub,aX,aY,aK,aN])
 all_goals
  repeat' (first
   |simp -implicitDefEqProofs (maxSteps:=9999999) only[↓reduceIte,aA,aC,facts,Nat.reduceAdd,Nat.reduceEqDiff,Nat.reduceLT,Int.reduceLE,Option.map_none,bnd,Nat.sub_zero,Option.isSome_some,Nat.add_sub_cancel_left,wrap_in,kE,cO,fB,splice, *]
   |simp -implicitDefEqProofs (maxSteps:=9999999) (disch:=first|assumption|omega) only[aA,aC,facts,if_pos,if_neg,Nat.reduceAdd,Nat.reduceEqDiff,Nat.reduceLT,Int.reduceLE,Option.map_none,bnd,Nat.sub_zero,Option.isSome_some,Nat.add_sub_cancel_left,wrap_in,kE,cO,fB,splice, *])
  have hCB:CB=[]:=List.eq_nil_of_length_eq_zero (by omega)
  exact gW.oneM (cs:=CA++CV++CB) (rest:=[]) (by rw[hCB];simp [hget]) (by rw[List.map_append,List.map_append,rA,rB,rV])
theorem insBX {fI:FuncId} {z:AV} (hfI:(fI=56/\z= .sl 1 [] .full)\/(fI=57/\z= .sl 4 [] .full)\/(fI=64/\z= .sl 9 [] .full)) (CA CB CV P:List AV) (a b m c:Nat) (hA:CA.length=a) (hB:CB.length=b) (hV:CV.length=(m+1)) (hPl:P.length=c - (a+b)) (oA:CA.all AV.one=true) (oB:CB.all AV.one=true) (oV:CV.all AV.one=true) (hbd:a+b+(m+1)<=1000000) (hc:a+b<=c) (hcap:a+b+(m+1)<=c) (hb:0<b) (rA: ∀f,CA.map (AV.ren f)=CA) (rB: ∀f,CB.map (AV.ren f)=CB) (rV: ∀f,CV.map (AV.ren f)=CV):
   dE Tryz.prog gl fI [.mcap 0 0 (a+b) c 1,.int .i64 (a:Nat),.msl 1 0 (m+1) 1] [(0,.cells (CA++CB++P)),(1,.cells CV)] 2 (.msl 0 0 (a+(m+1)+b) 1) [(0,CA++CV++CB)] 1:=by
 skip
 have hTV:List.take ((m+1)) CV=CV:=List.take_of_length_le (by omega)
 have hm1:(((m+1:Nat):Int)==0)=false:=by simp;omega
 have hz2:((a:Nat):Int)+((m+1:Nat):Int)=((a+(m+1):Nat):Int):=by omega
 have hz3:((a+b:Nat):Int)+((m+1:Nat):Int)=((a+b+(m+1):Nat):Int):=by omega
 have hn1:a+b+(m+1) - (a+(m+1))=b:=by omega
 have hn2:a+b+(m+1) - a=b+(m+1):=by omega
 have hq1:min (b+(m+1)) b=b:=by omega
 have hq2:min (m+1) (b+(m+1))=m+1:=by omega
 have hDA:List.drop (a) (CA++CB++P)=CB++P:=by rw[List.append_assoc,List.drop_left' hA]
 have hTT:List.take (b) (List.take ((b+(m+1))) (CB++P))=CB:=by rw[List.take_take,show min (b) ((b+(m+1)))=b by omega,List.take_left' hB]
 have hab:(((a:Nat):Int)==((a+b:Nat):Int))=false:=by simp;omega
 rcases hfI with⟨rfl,hz⟩|⟨rfl,hz⟩|⟨rfl,hz⟩
 all_goals first
   |(refine dE.intro 1 mix names (fn:=Tryz.f56) Tryz.func56 rfl fun F hF hro W=>?_;simp only[Tryz.ntmps56,Tryz.results56,aJ,Nat.reduceAdd,Nat.reduceSub,aX,aY,aK,aN])
   |(refine dE.intro 1 mix names (fn:=Tryz.f57) Tryz.func57 rfl fun F hF hro W=>?_;simp only[Tryz.ntmps57,Tryz.results57,aJ,Nat.reduceAdd,Nat.reduceSub,aX,aY,aK,aN])
   |(refine dE.intro 1 mix names (fn:=Tryz.f64) Tryz.func64 rfl fun F hF hro W=>?_;simp only[Tryz.ntmps64,Tryz.results64,aJ,Nat.reduceAdd,Nat.reduceSub,aX,aY,aK,aN])
 all_goals
  repeat' (first
   |simp -implicitDefEqProofs (maxSteps:=9999999) only[↓reduceIte,aA,aC,facts,Nat.reduceAdd,Nat.reduceEqDiff,Nat.reduceLT,Int.reduceLE,Option.map_none,bnd,Nat.sub_zero,Option.isSome_some,Nat.add_sub_cancel_left,wrap_in,cO,sQ,splice,pF,List.length_append,List.length_take,List.length_drop,AV.keysOf,List.flatMap_cons,List.flatMap_nil, *]
   |simp -implicitDefEqProofs (maxSteps:=9999999) (disch:=first|assumption|omega) only[aA,aC,facts,if_pos,if_neg,Nat.reduceAdd,Nat.reduceEqDiff,Nat.reduceLT,Int.reduceLE,Option.map_none,bnd,Nat.sub_zero,Option.isSome_some,Nat.add_sub_cancel_left,wrap_in,cO,sQ,splice,pF,List.length_append,List.length_take,List.length_drop,AV.keysOf,List.flatMap_cons,List.flatMap_nil, *]
   |((with_reducible refine aF (fun _=>?_) (fun _=>?_))<;>try omega)
   |((with_reducible refine aO ?_);refine jH (by decide+kernel) ?_)
   |((with_reducible refine dP ?_ ?_);· decide+kernel)
   |((with_reducible refine aS 96 ?_);refine Ls (zA (fn:=Tryz.f96) (t:=55) (r:=4) (e:=87) (k:=1) Tryz.func96 (by kernel_rfl) (by kernel_rfl) (by kernel_rfl) (by kernel_rfl) Tryz.underlying55 sz87 (q1:=1) (q2:=0) (cs1:=CV) (cs2:=CA++CB++P) rfl rfl (by decide) (by simp only[List.length_append];omega) Lj Gi ?_))
   |((with_reducible refine aS 98 ?_);refine Ls (zA (fn:=Tryz.f98) (t:=56) (r:=4) (e:=89) (k:=1) Tryz.func98 (by kernel_rfl) (by kernel_rfl) (by kernel_rfl) (by kernel_rfl) Tryz.underlying56 sz89 (q1:=1) (q2:=0) (cs1:=CV) (cs2:=CA++CB++P) rfl rfl (by decide) (by simp only[List.length_append];omega) Lj Gi ?_))
   |((with_reducible refine aS 100 ?_);refine Ls (zA (fn:=Tryz.f100) (t:=87) (r:=4) (e:=86) (k:=1) Tryz.func100 (by kernel_rfl) (by kernel_rfl) (by kernel_rfl) (by kernel_rfl) Tryz.underlying87 sz86 (q1:=1) (q2:=0) (cs1:=CV) (cs2:=CA++CB++P) rfl rfl (by decide) (by simp only[List.length_append];omega) Lj Gi ?_)))
  obtain⟨Z,hZ1,hZ2⟩: ∃Z,List.take ((a+(m+1))) (CA++CB++P)=CA++Z/\Z.length=(m+1):=by
    refine⟨List.take ((m+1)) (CB++P),?_,by simp only[List.length_take,List.length_append];omega⟩
    rw[List.append_assoc,show(a+(m+1))=CA.length+(m+1) by omega,List.take_length_add_append]
  rw[hZ1,show a+b+(m+1)=a+(m+1)+b by omega]
  generalize List.drop ((a+(m+1))+b) (CA++CB++P)=D
  rw[show List.take (a) (CA++Z++CB++D)=CA by rw[List.append_assoc,List.append_assoc,List.take_left' hA],show List.drop (a+(m+1)) (CA++Z++CB++D)=CB++D by rw[List.append_assoc,List.drop_left' (by simp only[List.length_append];omega)]]
  exact gW.one (cs:=CA++CV++CB) (rest:=D) (by simp [hget]) (by rw[List.map_append,List.map_append,rA,rB,rV])
theorem insDX {fI:FuncId} {z:AV} (hfI:(fI=56/\z= .sl 1 [] .full)\/(fI=57/\z= .sl 4 [] .full)\/(fI=64/\z= .sl 9 [] .full)) (CA CB CV P:List AV) (a b m c:Nat) (hA:CA.length=a) (hB:CB.length=b) (hV:CV.length=(m+1)) (hPl:P.length=c - (a+b)) (oA:CA.all AV.one=true) (oB:CB.all AV.one=true) (oV:CV.all AV.one=true) (hbd:a+b+(m+1)<=1000000) (hc:a+b<=c) (hcap: ¬a+b+(m+1)<=c) (hb:0<b) (rA: ∀f,CA.map (AV.ren f)=CA) (rB: ∀f,CB.map (AV.ren f)=CB) (rV: ∀f,CV.map (AV.ren f)=CV):
   dE Tryz.prog gl fI [.mcap 0 0 (a+b) c 1,.int .i64 (a:Nat),.msl 1 0 (m+1) 1] [(0,.cells (CA++CB++P)),(1,.cells CV)] 2 (.msl 0 0 (a+(m+1)+b) 1) [(0,CA++CV++CB)] 1:=by
 skip
 have hTV:List.take ((m+1)) CV=CV:=List.take_of_length_le (by omega)
 have hm1:(((m+1:Nat):Int)==0)=false:=by simp;omega
 have hz2:((a:Nat):Int)+((m+1:Nat):Int)=((a+(m+1):Nat):Int):=by omega
 have hz3:((a+b:Nat):Int)+((m+1:Nat):Int)=((a+b+(m+1):Nat):Int):=by omega
 have hz4:((a+b+(m+1):Nat):Int) - (a:Int)=((b+(m+1):Nat):Int):=by omega
 have hn3:a+(b+(m+1)) - a=b+(m+1):=by omega
 have hn4:a+(b+(m+1)) - (a+(m+1))=b:=by omega
 have hq2:min (m+1) (b+(m+1))=m+1:=by omega
 have hDA:List.drop (a) (CA++CB++P)=CB++P:=by rw[List.append_assoc,List.drop_left' hA]
 have hTA:List.take (a) (CA++CB++P)=CA:=by rw[List.append_assoc,List.take_left' hA]
 have hTB:List.take (b) (CB++P)=CB:=List.take_left' hB
 have hZ: ∀(z:AV) n,(List.replicate n [z]).flatten.length=n:=by intro z n;simp
 have hab:(((a:Nat):Int)==((a+b:Nat):Int))=false:=by simp;omega
 rcases hfI with⟨rfl,hz⟩|⟨rfl,hz⟩|⟨rfl,hz⟩
 all_goals first
   |(refine dE.intro 1 mix names (fn:=Tryz.f56) Tryz.func56 rfl fun F hF hro W=>?_;simp only[Tryz.ntmps56,Tryz.results56,aJ,Nat.reduceAdd,Nat.reduceSub,aX,aY,aK,aN])
   |(refine dE.intro 1 mix names (fn:=Tryz.f57) Tryz.func57 rfl fun F hF hro W=>?_;simp only[Tryz.ntmps57,Tryz.results57,aJ,Nat.reduceAdd,Nat.reduceSub,aX,aY,aK,aN])
   |(refine dE.intro 1 mix names (fn:=Tryz.f64) Tryz.func64 rfl fun F hF hro W=>?_;simp only[Tryz.ntmps64,Tryz.results64,aJ,Nat.reduceAdd,Nat.reduceSub,aX,aY,aK,aN])
 all_goals
  repeat' (first
   |simp -implicitDefEqProofs (maxSteps:=9999999) only[↓reduceIte,aA,aC,facts,Nat.reduceAdd,Nat.reduceEqDiff,Nat.reduceLT,Int.reduceLE,Option.map_none,bnd,Nat.sub_zero,Option.isSome_some,Nat.add_sub_cancel_left,wrap_in,Ag,cO,sQ,splice,pF,List.length_append,List.length_take,List.length_drop,Nat.min_self,AV.keysOf,List.flatMap_cons,List.flatMap_nil, *]
   |simp -implicitDefEqProofs (maxSteps:=9999999) (disch:=first|assumption|omega) only[aA,aC,facts,if_pos,if_neg,Nat.reduceAdd,Nat.reduceEqDiff,Nat.reduceLT,Int.reduceLE,Option.map_none,bnd,Nat.sub_zero,Option.isSome_some,Nat.add_sub_cancel_left,wrap_in,Ag,cO,sQ,splice,pF,List.length_append,List.length_take,List.length_drop,Nat.min_self,AV.keysOf,List.flatMap_cons,List.flatMap_nil, *]
   |((with_reducible refine aF (fun _=>?_) (fun _=>?_))<;>try omega)
   |((with_reducible refine aO ?_);refine jH (by decide+kernel) ?_)
   |((with_reducible refine dP ?_ ?_);· decide+kernel))
  rw[<-hz]
  generalize hY:(List.replicate (b+(m+1)) [z]).flatten=Y
  have hYl:Y.length=(b+(m+1)):=by rw[<-hY,hZ]
  rw[show List.take (a) (CA++Y)=CA from List.take_left' hA]
  have hD:List.drop (a+(m+1)) (CA++Y)=List.drop ((m+1)) Y:=by rw[<-hA,List.drop_length_add_append]
  rw[hD,List.take_of_length_le (l:=CB) (by omega),List.take_left' (by simp only[List.length_append];omega),List.drop_of_length_le (by simp only[List.length_append,List.length_drop];omega),show a+(m+1)+b=a+(b+(m+1)) by omega]
  exact gW.oneM (cs:=CA++CV++CB) (rest:=[]) (by simp [hget]) (by rw[List.map_append,List.map_append,rA,rB,rV])
theorem ins0X {fI:FuncId} {z:AV} (hfI:(fI=56/\z= .sl 1 [] .full)\/(fI=57/\z= .sl 4 [] .full)\/(fI=64/\z= .sl 9 [] .full)) (CA CB:List AV) (a b:Nat) (hl:CA.length=a) (rA: ∀f,(CA++CB).map (AV.ren f)=CA++CB):
   dE Tryz.prog gl fI [.msl 0 0 (a+b) 1,.int .i64 (a:Nat),.sl 1 [] .mut] [(0,.cells (CA++CB))] 2 (.msl 0 0 (a+b) 1) [(0,CA++CB)] 1:=by
 generalize CA++CB=X at rA ⊢
 clear hl
 rcases hfI with⟨rfl,hz⟩|⟨rfl,hz⟩|⟨rfl,hz⟩
 all_goals first
   |(refine dE.intro 1 mix names (fn:=Tryz.f56) Tryz.func56 rfl fun F hF hro W=>?_;simp only[Tryz.ntmps56,Tryz.results56,aJ,Nat.reduceAdd,Nat.reduceSub,aX,aY,aK,aN])
   |(refine dE.intro 1 mix names (fn:=Tryz.f57) Tryz.func57 rfl fun F hF hro W=>?_;simp only[Tryz.ntmps57,Tryz.results57,aJ,Nat.reduceAdd,Nat.reduceSub,aX,aY,aK,aN])
   |(refine dE.intro 1 mix names (fn:=Tryz.f64) Tryz.func64 rfl fun F hF hro W=>?_;simp only[Tryz.ntmps64,Tryz.results64,aJ,Nat.reduceAdd,Nat.reduceSub,aX,aY,aK,aN])
 all_goals
  rcases Nat.eq_zero_or_pos b with hb|hb
  · subst hb
    repeat' (first
   |simp -implicitDefEqProofs (maxSteps:=9999999) only[↓reduceIte,aA,aC,facts,Nat.reduceAdd,Nat.reduceEqDiff,Nat.reduceLT,Int.reduceLE,Option.map_none,bnd,Nat.sub_zero,Option.isSome_some,Nat.add_sub_cancel_left,wrap_in, *]
   |simp -implicitDefEqProofs (maxSteps:=9999999) (disch:=first|assumption|omega) only[aA,aC,facts,if_pos,if_neg,Nat.reduceAdd,Nat.reduceEqDiff,Nat.reduceLT,Int.reduceLE,Option.map_none,bnd,Nat.sub_zero,Option.isSome_some,Nat.add_sub_cancel_left,wrap_in, *])
    exact gW.oneM (cs:=X) (rest:=[]) (by simp [hget]) (rA _)
  · repeat' (first
   |simp -implicitDefEqProofs (maxSteps:=9999999) only[↓reduceIte,aA,aC,facts,Nat.reduceAdd,Nat.reduceEqDiff,Nat.reduceLT,Int.reduceLE,Option.map_none,bnd,Nat.sub_zero,Option.isSome_some,Nat.add_sub_cancel_left,wrap_in, *]
   |simp -implicitDefEqProofs (maxSteps:=9999999) (disch:=first|assumption|omega) only[aA,aC,facts,if_pos,if_neg,Nat.reduceAdd,Nat.reduceEqDiff,Nat.reduceLT,Int.reduceLE,Option.map_none,bnd,Nat.sub_zero,Option.isSome_some,Nat.add_sub_cancel_left,wrap_in, *])
    exact gW.oneM (cs:=X) (rest:=[]) (by simp [hget]) (rA _)
theorem Hz {fI:FuncId} {z:AV} (hfI:(fI=56/\z= .sl 1 [] .full)\/(fI=57/\z= .sl 4 [] .full)\/(fI=64/\z= .sl 9 [] .full)) (CA CB CV:List AV) (a b m:Nat) (hA:CA.length=a) (hB:CB.length=b) (hV:CV.length=m) (oA:CA.all AV.one=true) (oB:CB.all AV.one=true) (oV:CV.all AV.one=true) (rA: ∀f,CA.map (AV.ren f)=CA) (rB: ∀f,CB.map (AV.ren f)=CB) (rV: ∀f,CV.map (AV.ren f)=CV)
  (hbd:a+b+m<=1000000):dE Tryz.prog gl fI [.msl 0 0 (a+b) 1,.int .i64 (a:Nat),iR 1 1 m] (hC ((0,CA++CB)::jI 1 CV m)) 2 (.msl 0 0 (a+m+b) 1) [(0,CA++CV++CB)] 1:=by
 cases m with
 |zero=>
  have hv0:CV=[]:=List.eq_nil_of_length_eq_zero (by omega)
  subst hv0
  rw[List.append_nil]
  exact ins0X hfI CA CB a b hA (fun f=>by rw[List.map_append,rA,rB])
 |succ m=>
  simp only[dY,bJ,aK,aN]
  refine dE.cap (cs:=CA++CB) (by simp [hget]) fun c hc=>?_
  rw[yY]
  have hPl:(List.replicate (c*1 - (CA++CB).length) AV.ud).length=c - (a+b):=by rw[List.length_replicate,List.length_append,hA,hB];omega
  by_cases hcap:a+b+(m+1)<=c<;>rcases Nat.eq_zero_or_pos b with hb|hb
  ·exact insAX hfI CA CB CV _ a b m c hA hB hV hPl oA oB oV hbd hc hcap hb rA rB rV
  ·exact insBX hfI CA CB CV _ a b m c hA hB hV hPl oA oB oV hbd hc hcap hb rA rB rV
  ·exact insCX hfI CA CB CV _ a b m c hA hB hV hPl oA oB oV hbd hc hcap hb rA rB rV
  ·exact insDX hfI CA CB CV _ a b m c hA hB hV hPl oA oB oV hbd hc hcap hb rA rB rV
theorem aU5 (CA CM CB P:List AV) (a d b c:Nat) (hA:CA.length=a*14) (hM:CM.length=d*14) (hB:CB.length=b*14) (hPl:P.length=c*14 - (a+d+b)*14) (oA:CA.all AV.one=true) (oM:CM.all AV.one=true) (oB:CB.all AV.one=true) (hbd:a+d+b<=1000000) (hc:a+d+b<=c) (hd:d=0) (rA: ∀f,CA.map (AV.ren f)=CA) (rB: ∀f,CB.map (AV.ren f)=CB):
  dE Tryz.prog gl 59 [.mcap 0 0 (a+d+b) c 14,.int .i64 (a:Nat),.int .i64 ((a+d:Nat):Int)] [(0,.cells (CA++CM++CB++P))] 1 (.msl 0 0 (a+b) 14) [(0,CA++CB)] 1:=by
 subst hd
 refine dE.intro 1 mix names (fn:=Tryz.f59) Tryz.func59 rfl fun F hF hro W=>?_
 simp only[Tryz.ntmps59,Tryz.results59,aJ,Nat.reduceAdd,Nat.reduceSub,aX,aY,aK,aN]
 simp only[Nat.add_zero] at hc ⊢
 repeat' (first
  |simp -implicitDefEqProofs (maxSteps:=9999999) only[↓reduceIte,aA,aC,facts,Nat.reduceAdd,bnd,Option.isSome_some, *]
  |simp -implicitDefEqProofs (maxSteps:=9999999) (disch:=first|assumption|omega) only[aA,aC,if_pos,Nat.reduceAdd, *])
 have hCM:CM=[]:=List.eq_nil_of_length_eq_zero (by omega)
 subst hCM
 exact gW.one (cs:=CA++CB) (rest:=P) (by simp [hget]) (by rw[List.map_append,rA,rB])
theorem aU6 (CA CM CB P:List AV) (a d b c:Nat) (hA:CA.length=a*14) (hM:CM.length=d*14) (hB:CB.length=b*14) (hPl:P.length=c*14 - (a+d+b)*14) (oA:CA.all AV.one=true) (oM:CM.all AV.one=true) (oB:CB.all AV.one=true) (hbd:a+d+b<=1000000) (hc:a+d+b<=c) (hd:0<d) (hb:b=0) (rA: ∀f,CA.map (AV.ren f)=CA) (rB: ∀f,CB.map (AV.ren f)=CB):
  dE Tryz.prog gl 59 [.mcap 0 0 (a+d+b) c 14,.int .i64 (a:Nat),.int .i64 ((a+d:Nat):Int)] [(0,.cells (CA++CM++CB++P))] 1 (.msl 0 0 (a+b) 14) [(0,CA++CB)] 1:=by
 subst hb
 have had:(((a:Nat):Int)==((a+d:Nat):Int))=false:=by simp;omega
 have hTA:List.take (a*14) (CA++CM++CB++P)=CA:=by rw[List.append_assoc,List.append_assoc,List.take_left' hA]
 have hlen:(CA++CM++CB++P).length=c*14:=by simp only[List.length_append,hA,hM,hB,hPl];omega
 have hss:a+d - (a+d)=0:=Nat.sub_self _
 refine dE.intro 1 mix names (fn:=Tryz.f59) Tryz.func59 rfl fun F hF hro W=>?_
 simp only[Tryz.ntmps59,Tryz.results59,aJ,Nat.reduceAdd,Nat.reduceSub,aX,aY,aK,aN]
 by_cases hx:((a+d:Nat):Int)< ((c:Nat):Int)
 all_goals repeat' (first
  |simp -implicitDefEqProofs (maxSteps:=9999999) only[↓reduceIte,aA,aC,facts,Nat.reduceAdd,Int.reduceLE,Option.map_none,bnd,Nat.zero_mul,Nat.sub_zero,Option.isSome_some, *]
  |simp -implicitDefEqProofs (maxSteps:=9999999) (disch:=first|assumption|omega) only[aA,aC,facts,if_pos,if_neg,Nat.reduceAdd,Nat.reduceEqDiff,Nat.reduceLT,Option.map_none,bnd,Nat.zero_mul,Nat.add_sub_cancel_left,cO,fB,kE,splice,mX,AV.keysOf,List.flatMap_cons,List.flatMap_nil, *]
  |((with_reducible refine aO ?_);refine jH (by decide+kernel) ?_)
  |((with_reducible refine dP ?_ ?_);· decide+kernel))
 all_goals have hCB:CB=[]:=List.eq_nil_of_length_eq_zero (by omega)
 all_goals subst hCB
 all_goals exact gW.one (cs:=CA++[]) (by simp only[hget,if_true,List.append_nil,List.append_assoc]<;>rfl) (by simp only[List.append_nil];exact rA _)
theorem aU7 (CA CM CB P:List AV) (a d b c:Nat) (hA:CA.length=a*14) (hM:CM.length=d*14) (hB:CB.length=b*14) (hPl:P.length=c*14 - (a+d+b)*14) (oA:CA.all AV.one=true) (oM:CM.all AV.one=true) (oB:CB.all AV.one=true) (hbd:a+d+b<=1000000) (hc:a+d+b<=c) (hd:0<d) (hb:0<b) (rA: ∀f,CA.map (AV.ren f)=CA) (rB: ∀f,CB.map (AV.ren f)=CB):
  dE Tryz.prog gl 59 [.mcap 0 0 (a+d+b) c 14,.int .i64 (a:Nat),.int .i64 ((a+d:Nat):Int)] [(0,.cells (CA++CM++CB++P))] 1 (.msl 0 0 (a+b) 14) [(0,CA++CB)] 1:=by
 skip
 have had:(((a:Nat):Int)==((a+d:Nat):Int))=false:=by simp;omega
 have hTA:List.take (a*14) (CA++CM++CB++P)=CA:=by rw[List.append_assoc,List.append_assoc,List.take_left' hA]
 have hDA:List.drop ((a+d)*14) (CA++CM++CB++P)=CB++P:=by rw[List.append_assoc (CA++CM),List.drop_left' (by simp only[List.length_append];omega)]
 have hTB:List.take (b*14) (CB++P)=CB:=List.take_left' hB
 have hn1:a+d+b - (a+d)=b:=by omega
 have hn2:a+d+b - a=d+b:=by omega
 have hn3:a+d+b - (a+b)=d:=by omega
 have hlen:(CA++CM++CB++P).length=c*14:=by simp only[List.length_append,hA,hM,hB,hPl];omega
 refine dE.intro 1 mix names (fn:=Tryz.f59) Tryz.func59 rfl fun F hF hro W=>?_
 simp only[Tryz.ntmps59,Tryz.results59,aJ,Nat.reduceAdd,Nat.reduceSub,aX,aY,aK,aN]
 repeat' (first
  |simp -implicitDefEqProofs (maxSteps:=9999999) only[↓reduceIte,aA,aC,facts,Nat.reduceAdd,Int.reduceLE,Option.map_none,bnd,Nat.zero_mul,Nat.sub_zero,Option.isSome_some, *]
  |simp -implicitDefEqProofs (maxSteps:=9999999) (disch:=first|assumption|omega) only[aA,aC,facts,if_pos,if_neg,Nat.reduceAdd,Nat.reduceEqDiff,Nat.reduceLT,Option.map_none,bnd,cO,fB,kE,splice,mX,List.length_append,List.length_drop,AV.keysOf,List.flatMap_cons,List.flatMap_nil, *]
  |((with_reducible refine aO ?_);refine jH (by decide+kernel) ?_)
  |((with_reducible refine dP ?_ ?_);· decide+kernel))
 generalize List.drop (a*14+b*14) (CA++CM++CB++P)=X
 rw[List.take_left' (l₁:=CA++CB) (by rw[List.length_append,hA,hB]<;>omega)]
 exact gW.one (cs:=CA++CB) (rest:=_) (by simp only[hget,if_true,List.append_assoc]<;>rfl) (by rw[List.map_append,rA,rB])
theorem aD4 (CA CM CB:List AV) (a d b:Nat) (hA:CA.length=a*14) (hM:CM.length=d*14) (hB:CB.length=b*14) (oA:CA.all AV.one=true) (oM:CM.all AV.one=true) (oB:CB.all AV.one=true) (rA: ∀f,CA.map (AV.ren f)=CA) (rB: ∀f,CB.map (AV.ren f)=CB) (hbd:a+d+b<=1000000):
  dE Tryz.prog gl 59 [.msl 0 0 (a+d+b) 14,.int .i64 (a:Nat),.int .i64 ((a+d:Nat):Int)] [(0,.cells (CA++CM++CB))] 1 (.msl 0 0 (a+b) 14) [(0,CA++CB)] 1:=by
 refine dE.cap (cs:=CA++CM++CB) (by simp [hget]) fun c hc=>?_
 rw[yY]
 have hPl:(List.replicate (c*14 - (CA++CM++CB).length) AV.ud).length=c*14 - (a+d+b)*14:=by rw[List.length_replicate,List.length_append,List.length_append,hA,hM,hB];omega
 rcases Nat.eq_zero_or_pos d with hd|hd
 ·exact aU5 CA CM CB _ a d b c hA hM hB hPl oA oM oB hbd hc hd rA rB
 ·rcases Nat.eq_zero_or_pos b with hb|hb
  ·exact aU6 CA CM CB _ a d b c hA hM hB hPl oA oM oB hbd hc hd hb rA rB
  ·exact aU7 CA CM CB _ a d b c hA hM hB hPl oA oM oB hbd hc hd hb rA rB
theorem delAX {fI:FuncId} {z:AV} (hfI:(fI=62/\z= .sl 1 [] .full)\/(fI=63/\z= .sl 4 [] .full)\/(fI=65/\z= .sl 9 [] .full)) (CA CM CB P:List AV) (a d b c:Nat) (hA:CA.length=a) (hM:CM.length=d) (hB:CB.length=b) (hPl:P.length=c - (a+d+b)) (oA:CA.all AV.one=true) (oM:CM.all AV.one=true) (oB:CB.all AV.one=true) (hbd:a+d+b<=1000000) (hc:a+d+b<=c) (hd:d=0) (rA: ∀f,CA.map (AV.ren f)=CA) (rB: ∀f,CB.map (AV.ren f)=CB):
   dE Tryz.prog gl fI [.mcap 0 0 (a+d+b) c 1,.int .i64 (a:Nat),.int .i64 ((a+d:Nat):Int)] [(0,.cells (CA++CM++CB++P))] 1 (.msl 0 0 (a+b) 1) [(0,CA++CB)] 1:=by
 subst hd
 rcases hfI with⟨rfl,hz⟩|⟨rfl,hz⟩|⟨rfl,hz⟩
 all_goals first
   |(refine dE.intro 1 mix names (fn:=Tryz.f62) Tryz.func62 rfl fun F hF hro W=>?_;simp only[Tryz.ntmps62,Tryz.results62,aJ,Nat.reduceAdd,Nat.reduceSub,aX,aY,aK,aN])
   |(refine dE.intro 1 mix names (fn:=Tryz.f63) Tryz.func63 rfl fun F hF hro W=>?_;simp only[Tryz.ntmps63,Tryz.results63,aJ,Nat.reduceAdd,Nat.reduceSub,aX,aY,aK,aN])
   |(refine dE.intro 1 mix names (fn:=Tryz.f65) Tryz.func65 rfl fun F hF hro W=>?_;simp only[Tryz.ntmps65,Tryz.results65,aJ,Nat.reduceAdd,Nat.reduceSub,aX,aY,aK,aN])
 all_goals
  simp only[Nat.add_zero] at hc ⊢
  repeat' (first
   |simp -implicitDefEqProofs (maxSteps:=9999999) only[↓reduceIte,aA,aC,facts,Nat.reduceAdd,Nat.reduceEqDiff,Nat.reduceLT,Int.reduceLE,Option.map_none,bnd,Nat.sub_zero,Option.isSome_some,Nat.add_sub_cancel_left,cO,fB,kE,splice,mX,List.length_append,List.length_drop,AV.keysOf,List.flatMap_cons,List.flatMap_nil, *]
   |simp -implicitDefEqProofs (maxSteps:=9999999) (disch:=first|assumption|omega) only[aA,aC,facts,if_pos,if_neg,Nat.reduceAdd,Nat.reduceEqDiff,Nat.reduceLT,Int.reduceLE,Option.map_none,bnd,Nat.sub_zero,Option.isSome_some,Nat.add_sub_cancel_left,cO,fB,kE,splice,mX,List.length_append,List.length_drop,AV.keysOf,List.flatMap_cons,List.flatMap_nil, *])
  have hCM:CM=[]:=List.eq_nil_of_length_eq_zero (by omega)
  subst hCM
  exact gW.one (cs:=CA++CB) (rest:=P) (by simp [hget]) (by rw[List.map_append,rA,rB])
theorem delBX {fI:FuncId} {z:AV} (hfI:(fI=62/\z= .sl 1 [] .full)\/(fI=63/\z= .sl 4 [] .full)\/(fI=65/\z= .sl 9 [] .full)) (CA CM CB P:List AV) (a d b c:Nat) (hA:CA.length=a) (hM:CM.length=d) (hB:CB.length=b) (hPl:P.length=c - (a+d+b)) (oA:CA.all AV.one=true) (oM:CM.all AV.one=true) (oB:CB.all AV.one=true) (hbd:a+d+b<=1000000) (hc:a+d+b<=c) (hd:0<d) (hb:b=0) (rA: ∀f,CA.map (AV.ren f)=CA) (rB: ∀f,CB.map (AV.ren f)=CB):
   dE Tryz.prog gl fI [.mcap 0 0 (a+d+b) c 1,.int .i64 (a:Nat),.int .i64 ((a+d:Nat):Int)] [(0,.cells (CA++CM++CB++P))] 1 (.msl 0 0 (a+b) 1) [(0,CA++CB)] 1:=by
 subst hb
 have had:(((a:Nat):Int)==((a+d:Nat):Int))=false:=by simp;omega
 have hTA:List.take (a) (CA++CM++CB++P)=CA:=by rw[List.append_assoc,List.append_assoc,List.take_left' hA]
 have hlen:(CA++CM++CB++P).length=c:=by simp only[List.length_append,hA,hM,hB,hPl];omega
 have hss:a+d - (a+d)=0:=Nat.sub_self _
 rcases hfI with⟨rfl,hz⟩|⟨rfl,hz⟩|⟨rfl,hz⟩
 all_goals first
   |(refine dE.intro 1 mix names (fn:=Tryz.f62) Tryz.func62 rfl fun F hF hro W=>?_;simp only[Tryz.ntmps62,Tryz.results62,aJ,Nat.reduceAdd,Nat.reduceSub,aX,aY,aK,aN])
   |(refine dE.intro 1 mix names (fn:=Tryz.f63) Tryz.func63 rfl fun F hF hro W=>?_;simp only[Tryz.ntmps63,Tryz.results63,aJ,Nat.reduceAdd,Nat.reduceSub,aX,aY,aK,aN])
   |(refine dE.intro 1 mix names (fn:=Tryz.f65) Tryz.func65 rfl fun F hF hro W=>?_;simp only[Tryz.ntmps65,Tryz.results65,aJ,Nat.reduceAdd,Nat.reduceSub,aX,aY,aK,aN])
 all_goals
  by_cases hx:((a+d:Nat):Int)< ((c:Nat):Int)
  all_goals repeat' (first
   |simp -implicitDefEqProofs (maxSteps:=9999999) only[↓reduceIte,aA,aC,facts,Nat.reduceAdd,Nat.reduceEqDiff,Nat.reduceLT,Int.reduceLE,Option.map_none,bnd,Nat.sub_zero,Option.isSome_some,Nat.add_sub_cancel_left,cO,fB,kE,splice,mX,List.length_append,List.length_drop,AV.keysOf,List.flatMap_cons,List.flatMap_nil, *]
   |simp -implicitDefEqProofs (maxSteps:=9999999) (disch:=first|assumption|omega) only[aA,aC,facts,if_pos,if_neg,Nat.reduceAdd,Nat.reduceEqDiff,Nat.reduceLT,Int.reduceLE,Option.map_none,bnd,Nat.sub_zero,Option.isSome_some,Nat.add_sub_cancel_left,cO,fB,kE,splice,mX,List.length_append,List.length_drop,AV.keysOf,List.flatMap_cons,List.flatMap_nil, *]
   |((with_reducible refine aO ?_);refine jH (by decide+kernel) ?_)
   |((with_reducible refine dP ?_ ?_);· decide+kernel))
  all_goals have hCB:CB=[]:=List.eq_nil_of_length_eq_zero (by omega)
  all_goals subst hCB
  all_goals exact gW.one (cs:=CA++[]) (by simp only[hget,if_true,List.append_nil,List.append_assoc]<;>rfl) (by simp only[List.append_nil];exact rA _)
theorem delCX {fI:FuncId} {z:AV} (hfI:(fI=62/\z= .sl 1 [] .full)\/(fI=63/\z= .sl 4 [] .full)\/(fI=65/\z= .sl 9 [] .full)) (CA CM CB P:List AV) (a d b c:Nat) (hA:CA.length=a) (hM:CM.length=d) (hB:CB.length=b) (hPl:P.length=c - (a+d+b)) (oA:CA.all AV.one=true) (oM:CM.all AV.one=true) (oB:CB.all AV.one=true) (hbd:a+d+b<=1000000) (hc:a+d+b<=c) (hd:0<d) (hb:0<b) (rA: ∀f,CA.map (AV.ren f)=CA) (rB: ∀f,CB.map (AV.ren f)=CB):
   dE Tryz.prog gl fI [.mcap 0 0 (a+d+b) c 1,.int .i64 (a:Nat),.int .i64 ((a+d:Nat):Int)] [(0,.cells (CA++CM++CB++P))] 1 (.msl 0 0 (a+b) 1) [(0,CA++CB)] 1:=by
 skip
 have had:(((a:Nat):Int)==((a+d:Nat):Int))=false:=by simp;omega
 have hTA:List.take (a) (CA++CM++CB++P)=CA:=by rw[List.append_assoc,List.append_assoc,List.take_left' hA]
 have hDA:List.drop ((a+d)) (CA++CM++CB++P)=CB++P:=by rw[List.append_assoc (CA++CM),List.drop_left' (by simp only[List.length_append];omega)]
 have hTB:List.take (b) (CB++P)=CB:=List.take_left' hB
 have hn1:a+d+b - (a+d)=b:=by omega
 have hn2:a+d+b - a=d+b:=by omega
 have hn3:a+d+b - (a+b)=d:=by omega
 have hlen:(CA++CM++CB++P).length=c:=by simp only[List.length_append,hA,hM,hB,hPl];omega
 rcases hfI with⟨rfl,hz⟩|⟨rfl,hz⟩|⟨rfl,hz⟩
 all_goals first
   |(refine dE.intro 1 mix names (fn:=Tryz.f62) Tryz.func62 rfl fun F hF hro W=>?_;simp only[Tryz.ntmps62,Tryz.results62,aJ,Nat.reduceAdd,Nat.reduceSub,aX,aY,aK,aN])
   |(refine dE.intro 1 mix names (fn:=Tryz.f63) Tryz.func63 rfl fun F hF hro W=>?_;simp only[Tryz.ntmps63,Tryz.results63,aJ,Nat.reduceAdd,Nat.reduceSub,aX,aY,aK,aN])
   |(refine dE.intro 1 mix names (fn:=Tryz.f65) Tryz.func65 rfl fun F hF hro W=>?_;simp only[Tryz.ntmps65,Tryz.results65,aJ,Nat.reduceAdd,Nat.reduceSub,aX,aY,aK,aN])
 all_goals
  repeat' (first
   |simp -implicitDefEqProofs (maxSteps:=9999999) only[↓reduceIte,aA,aC,facts,Nat.reduceAdd,Nat.reduceEqDiff,Nat.reduceLT,Int.reduceLE,Option.map_none,bnd,Nat.sub_zero,Option.isSome_some,Nat.add_sub_cancel_left,cO,fB,kE,splice,mX,List.length_append,List.length_drop,AV.keysOf,List.flatMap_cons,List.flatMap_nil, *]
   |simp -implicitDefEqProofs (maxSteps:=9999999) (disch:=first|assumption|omega) only[aA,aC,facts,if_pos,if_neg,Nat.reduceAdd,Nat.reduceEqDiff,Nat.reduceLT,Int.reduceLE,Option.map_none,bnd,Nat.sub_zero,Option.isSome_some,Nat.add_sub_cancel_left,cO,fB,kE,splice,mX,List.length_append,List.length_drop,AV.keysOf,List.flatMap_cons,List.flatMap_nil, *]
   |((with_reducible refine aO ?_);refine jH (by decide+kernel) ?_)
   |((with_reducible refine dP ?_ ?_);· decide+kernel))
  generalize List.drop (a+b) (CA++CM++CB++P)=X
  rw[List.take_left' (l₁:=CA++CB) (by rw[List.length_append,hA,hB]<;>omega)]
  exact gW.one (cs:=CA++CB) (rest:=_) (by simp only[hget,if_true,List.append_assoc]<;>rfl) (by rw[List.map_append,rA,rB])
theorem Ho {fI:FuncId} {z:AV} (hfI:(fI=62/\z= .sl 1 [] .full)\/(fI=63/\z= .sl 4 [] .full)\/(fI=65/\z= .sl 9 [] .full)) (CA CM CB:List AV) (a d b:Nat) (hA:CA.length=a) (hM:CM.length=d) (hB:CB.length=b) (oA:CA.all AV.one=true) (oM:CM.all AV.one=true) (oB:CB.all AV.one=true) (rA: ∀f,CA.map (AV.ren f)=CA) (rB: ∀f,CB.map (AV.ren f)=CB) (hbd:a+d+b<=1000000):
  dE Tryz.prog gl fI [.msl 0 0 (a+d+b) 1,.int .i64 (a:Nat),.int .i64 ((a+d:Nat):Int)] [(0,.cells (CA++CM++CB))] 1 (.msl 0 0 (a+b) 1) [(0,CA++CB)] 1:=by
 refine dE.cap (cs:=CA++CM++CB) (by simp [hget]) fun c hc=>?_
 rw[yY]
 have hPl:(List.replicate (c*1 - (CA++CM++CB).length) AV.ud).length=c - (a+d+b):=by rw[List.length_replicate,List.length_append,List.length_append,hA,hM,hB];omega
 rcases Nat.eq_zero_or_pos d with hd|hd
 ·exact delAX hfI CA CM CB _ a d b c hA hM hB hPl oA oM oB hbd hc hd rA rB
 ·rcases Nat.eq_zero_or_pos b with hb|hb
  ·exact delBX hfI CA CM CB _ a d b c hA hM hB hPl oA oM oB hbd hc hd hb rA rB
  ·exact delCX hfI CA CM CB _ a d b c hA hM hB hPl oA oM oB hbd hc hd hb rA rB
end Go.Proofs.Pv
