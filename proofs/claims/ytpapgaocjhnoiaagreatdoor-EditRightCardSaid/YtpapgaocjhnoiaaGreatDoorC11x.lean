/-
  Layer 9's edits: bars that are put in.
  Layer 9's edits: bars that cannot be put in.
  Conditions: none but those that each statement names.
-/
import Derived.Test.YtpapgaocjhnoiaaGreatDoorC11u
set_option linter.unusedVariables false
set_option linter.unusedSimpArgs false
namespace Go.Proofs.Pv
open Go Go.Proofs
set_option maxRecDepth 100000
theorem Ky {h:List (Nat×aG)} {nx q:Nat} {X:aG} (e:hget h q=some X): ∀k b,hget [(q,X)] k=some b→(⟨h,nx⟩:St).hp k=some b:=by
 intro k b hk
 simp only[hget] at hk
 split at hk
 ·rename_i e2;subst e2;rw[←hk];exact e
 ·cases hk
def inF (o:aK) (b:Nat) (j:Nat) (p:Pa):Pa:=p.ins (o.cells.getD j []) (o.dyns.getD j []) b
def pG (s:Sc) (o:aK) (b:Nat):Sc:=⟨s.title,insL s.bars o.bars b,s.parts.mapIdx (inF o b)⟩
def Zn (o:aK) (b:Nat):aK:=⟨3,0,b,0,0,o.bars.length,[],[],[],[],0,0,⟨#[]⟩⟩
def cells2 (o:aK) (b:Nat):List AV:=[.int .i64 2,.int .i64 o.part,.int .i64 (b:Nat),.int .i64 o.voice,.int .i64 o.at_,.int .i64 o.count,.sl 9 (o.events.map Ev.av) .none,.sl 14 (o.bars.map Ba.av) .none,.sl 1 (o.cells.map dJ) .none,.sl 1 (o.dyns.map dQ) .none,.int .i64 o.steps,.int .i64 o.halves,.str o.text]
def Ox (s:Sc) (c:List AV):List (Nat×aG):=[(9,.cells [.int .i64 s.checkR.1.1,.int .i64 s.checkR.1.2.1,.int .i64 s.checkR.1.2.2.1,.int .i64 s.checkR.1.2.2.2]),(3,.cells dX),(2,.cells [.str ⟨#[]⟩,.sl 14 [] .full,.sl 5 [] .full]),(1,.cells c),(0,.cells [.str s.title,.sl 14 (s.bars.map Ba.av) .none,.sl 5 (s.parts.map Pa.av) .none])]
def aFq (s:Sc) (o:aK) (b kq:Nat) (top:List AV):List (Nat×aG):=(2000024,.cells (.str s.title:: .msl kq 0 (insL s.bars o.bars b).length 14:: .msl 20 0 s.parts.length 5::(cells2 o b++[.int .i64 3,.int .i64 0,.int .i64 (b:Nat),.int .i64 0,.int .i64 0,.int .i64 (o.bars.length:Nat),.sl 9 [] .full,.sl 14 [] .full,.sl 1 [] .full,.sl 1 [] .full,.int .i64 0,.int .i64 0,.str ⟨#[]⟩])))::(20,.cells top)::(kq,.cells ((insL s.bars o.bars b).flatMap Ba.cells))::Ox s (cells2 o b)
theorem aF.eqR {f:Nat→Option Nat} {h t t':List (Nat×aG)} (hr:aF f h t) (e:t'=t):aF f h t':=e ▸ hr
theorem Oy {k:Nat} {b:aG}:iK [(k,b)]=[(k,some b)]:=rfl
theorem aIr {α:Type} {np nb:Nat} {l:List (List α)} (h:nU np nb l=true) (i:Nat) (hi:i<l.length):l[i].length=nb:=by
 apply Classical.byContradiction
 intro hne
 rw[Wx hi hne] at h;cases h
set_option maxHeartbeats 16000000 in
theorem aQj (s:Sc) (o:aK) (hk:o.kind=2) (hs:s.small) (hg:s.goodU oK) (hcd: ∀p∈s.parts,p.cells.length=s.bars.length∧p.dyns.length=s.bars.length) (b:Nat) (hb:b≤s.bars.length) (HB:o.bar=(b:Nat)) (hbr: ∀x∈o.bars,x.short) (hbl:s.bars.length≤400000) (hnb:o.bars.length≤400000)
   (hfc:nU s.parts.length o.bars.length o.cells=true) (hfd:nU s.parts.length o.bars.length o.dyns=true) (hs0: ∀c∈o.cells,∀x∈c,wC x) (hy0: ∀d∈o.dyns,∀x∈d,x.length≤1000000) (hts:(pG s o b).small) {F:Fence} (hF:Free F) (hro:F.round=none) {W:World}:aO F Tryz.prog gl W 18 [.ptr 2000024 0] (MK s o (fun v=>v=uB (pG s o b) (Zn o b).av)) ⟨gU oK s o,2000068⟩:=by
 have hT:=TC_t hg.hi
 have hnp:=hg.hi
 have hpl:(bV 22 s.parts).length=s.parts.length*5:=kL _ _
 have ob:=Qg o.bars (by omega) hbr
 have hvr:=Ym s.title (.msl 21 0 s.bars.length 14) (.int .i64 2) (.int .i64 o.part) (.int .i64 (b:Nat)) (.int .i64 o.voice) (.int .i64 o.at_) (.int .i64 o.count) (.sl 9 (o.events.map Ev.av) .none) s.parts.length o.cells o.bars (.sl 1 (o.cells.map dJ) .none:: .sl 1 (o.dyns.map dQ) .none:: .int .i64 o.steps:: .int .i64 o.halves:: .str o.text::dX) (by simp [nU] at hfc;omega) (fun f hf=>by simp only[dX,List.map_cons,List.map_nil,AV.ren,hf 20 (by decide),hf 21 (by decide)])
 have hdr:=Yn s.title (.msl 21 0 s.bars.length 14) (.int .i64 2) (.int .i64 o.part) (.int .i64 (b:Nat)) (.int .i64 o.voice) (.int .i64 o.at_) (.int .i64 o.count) (.sl 9 (o.events.map Ev.av) .none) s.parts.length o.dyns o.bars (.sl 1 (o.cells.map dJ) .none:: .sl 1 (o.dyns.map dQ) .none:: .int .i64 o.steps:: .int .i64 o.halves:: .str o.text::dX) (by simp [nU] at hfd;omega) (fun f hf=>by simp only[dX,List.map_cons,List.map_nil,AV.ren,hf 20 (by decide),hf 21 (by decide)])
 rw[hfc] at hvr
 rw[hfd] at hdr
 simp only[dX] at hvr hdr
 obtain⟨mm,hm⟩: ∃mm,o.bars.length=mm:=⟨_,rfl⟩
 rcases mm with _|m
 all_goals
  rw[hm] at ob
  simp only[eH,bM,aU,aV] at ob
  have hw:IntKind.i64.wrap (((s.bars.length:Nat):Int)+1)=((s.bars.length:Nat):Int)+1:=wrap_in (by omega)
  rw[gU,eG,dX]
  rw[aEo]
  obtain⟨T,hTe⟩: ∃T,TC s.parts=T:=⟨_,rfl⟩
  rw[hTe] at hT ⊢
  have hdT: ∀n,1000000≤n→hdel T n=T:=fun n h=>gG (hT.hi n (by omega))
  have bT:PLift (TC s.parts=T):=⟨hTe⟩
  clear hTe
  have ho1: ∀r,1000000≤r→hsel [21,r] (iK T)=[]:=fun r hr=>(oC fun k hk=>by
    simp only[xI,Bool.or_eq_true,decide_eq_true_eq] at hk
    rcases hk with rfl|rfl
    ·exact hT.lo _ (by omega)
    ·exact hT.hi _ (by omega)).1
  have ho2: ∀r,1000000≤r→hkeep [21,r] (iK T)=iK T:=fun r hr=>(oC fun k hk=>by
    simp only[xI,Bool.or_eq_true,decide_eq_true_eq] at hk
    rcases hk with rfl|rfl
    ·exact hT.lo _ (by omega)
    ·exact hT.hi _ (by omega)).2
  have ho3:hsel [21] (iK T)=[]:=(oC fun k hk=>by
    simp only[xJ,decide_eq_true_eq] at hk
    subst hk
    exact hT.lo _ (by omega)).1
  have ho4:hkeep [21] (iK T)=iK T:=(oC fun k hk=>by
    simp only[xJ,decide_eq_true_eq] at hk
    subst hk
    exact hT.lo _ (by omega)).2
  (refine aO.introZ hF hro 3 mix names (fn:=Tryz.f18) Tryz.func18 rfl ?_;simp -implicitDefEqProofs only[Tryz.ntmps18,Tryz.results18,aI,Nat.reduceAdd,Nat.reduceSub])
  repeat' (first
   |simp -implicitDefEqProofs (maxSteps:=9999999) only[↓reduceIte,aB,aC,facts,Nat.reduceAdd,Nat.reduceEqDiff,Nat.reduceLT,Nat.reduceLeDiff,AV.cells,AV.one,aK.cells13,HB,fU,List.length_drop,Int.natCast_nonneg,mW,Sl,eU,fC,aJ,aN,nD,lU,xZ,List.append_assoc,vN,Qb,Qc,xJ,xI,aX,bQ,aZ,bD,dC,bG, *]
   |((with_reducible refine dH 37 ?_);refine kD hF hro ob (rfl) ?_)
   |((with_reducible refine dH 52 ?_);refine jT [21,2000134] (st0:=⟨[(21,.cells (s.bars.flatMap Ba.cells)),(2000134,.cells (o.bars.flatMap Ba.cells))],2000153⟩) (by simp [nH,oZ,oW,xI,ho1,gZ]) (aRm hF hro s.bars o.bars b hb (by omega) m hm (q:=21) (r:=2000134) (nx:=2000153) (by decide)) (by simp) (by simp only[Nat.reduceLeDiff]) ?_)
   |((with_reducible refine dH 52 ?_);refine jT [21] (st0:=⟨[(21,.cells (s.bars.flatMap Ba.cells))],2000153⟩) (by simp [nH,oZ,oW,xJ,ho3,gZ]) (aRn hF hro s.bars o.bars b hb (by omega) hm (q:=21) (nx:=2000153)) (by simp) (by simp only[Nat.reduceLeDiff]) ?_)
   |((with_reducible refine aQ ?_);refine bU (by decide+kernel) ?_)
   |((with_reducible refine dN ?_ ?_);· decide+kernel)
   |((with_reducible refine aT 45 ?_);refine PC.useZ hF (gV _ _ (by omega)) (rfl) fun v hv=>?_;subst hv)
   |((with_reducible refine aT 50 ?_);refine lX (Rd.call hF hvr (Ky rfl) ?_))
   |((with_reducible refine aT 51 ?_);refine lX (Rd.call hF hdr (Ky rfl) ?_)))
  have hzz:gZ [(2000147,none),(2000148,none),(2000166,none),(2000167,none),(2000153,some (aG.cells (List.flatMap Ba.cells (insL s.bars o.bars b))))]=[(2000153,aG.cells (List.flatMap Ba.cells (insL s.bars o.bars b)))]:=by simp [gZ,hdel]
  rw[uZ,hzz]
  obtain⟨qs,hqs⟩: ∃qs,s.parts.mapIdx (inF o b)=qs:=⟨_,rfl⟩
  have hql:qs.length=s.parts.length:=by rw[←hqs,List.length_mapIdx]
  have f0: ∀k,k<2000179→bI 2000179 [] k=some k:=fun k h=>if_pos h
  refine jY (jQ 124 [0,3,76,77]) 2001200 s.parts.length (fun i (_:Unit)=>⟨[.ptr 2000024 0,.ud,.ud,.int .i64 (b:Nat),.ud,.ud,.ud,.ud,.ud,.ud,.ud,.ud,.ud,.ud,.ud,.ud,.ud,.ud,.ud,.ud,.ud,.ud,.ud,.ud,.ud,.ud,.ud,.ud,.ud,.ud,.ud,.ud,.ud,.ud,.ud,.ud,.ud,.ud,.ud,.ud,.ud,.ud,.ud,.ud,.ud,.ud,.ud,.ud,.ud,.ud,.ud,.ud,.ud,.ud,.ud,.ud,.ud,.ud,.ud,.ud,.ud,.ud,.ud,.ud,.ud,.ud,.ud,.ud,.ud,.ud,.ud,.ud,.ud,.ud,.ud,.ud,.int .i64 (s.parts.length:Nat),.int .i64 (i:Nat),.ud,.ud,.ud,.ud,.ud,.ud,.ud,.ud,.ud,.ud,.ud,.ud,.ud,.ud,.ud,.ud,.ud,.ud,.ud,.ud,.ud,.ud,.ud,.ud,.ud,.ud,.ud,.ud,.ud,.ud,.ud,.ud,.ud,.ud,.ud,.ud,.ud,.ud,.ud,.ud,.ud,.ud,.ud,.ud,.ud,.ud],[]⟩) (fun i _=>⟨aFq s o b 2000153 (Ez 2000300 qs s.parts i)++wP 2000300 qs s.parts i,2001200⟩) (fun i _=>i<401) ⟨(),by omega,bI 2000179 [],gK 2000179 [],dF.of_fit rfl rfl rfl,?_,rfl,rfl⟩ ?_
  · rw[aL4,aHz]
    refine aF.app (aF.cons 2000024 rfl rfl (by rw[hm];rfl) (aF.cons 20 rfl rfl (lS 22 22 s.parts fun q hq=>f0 _ (by omega)) (aF.cons 2000153 ?_ rfl (nD _) (aF.cons 9 rfl rfl rfl (aF.cons 3 rfl rfl rfl (aF.cons 2 rfl rfl rfl (aF.cons 1 rfl rfl rfl (aF.cons 0 rfl rfl rfl aF.nil)))))))) (aF.famM (Ak _) (fun j hj=>f0 _ (by rw[iV] at hj;omega)) fun j hj=>?_)
    ·repeat rw[aW (by omega)]
     rw[iJ,if_neg (by omega),iJ,if_neg (by omega),bJ,hT.hi _ (by omega)];simp [hget]
    ·have hj2:=hj
     rw[iV] at hj2
     repeat rw[aW (by omega)]
     rw[iJ,if_neg (by omega),iJ,if_neg (by omega),bJ,←bT.down,TC,iF hj]
  clear hvr hdr ob ho1 ho2 ho3 ho4 hdT hzz hT bT f0
  rintro i x hi hi2
  rcases Nat.lt_or_ge i s.parts.length with hlt|hge
  · obtain⟨hc1,hd1⟩:=hcd _ (List.getElem_mem hlt)
    obtain⟨A,C,hAl,hAe,hCe,htop⟩:=aEq (N:=2000300) (qs:=qs) hlt hql
    have htn:=aB7 (N:=2000300) (qs:=qs) hlt hql
    have hZt:=aA2 (N:=2000300) (qs:=qs) (by omega) hnp hlt
    have hZK:=Hy (N:=2000300) (qs:=qs) (by omega) hnp hlt (k:=22+2*i) (by omega)
    have hZK3:=Hy (N:=2000300) (qs:=qs) (by omega) hnp hlt (k:=22+2*i+1) (by omega)
    have hCl:C.length=(s.parts.length - (i+1))*5:=by rw[hCe,kL,List.length_drop]
    have hfcl:o.cells.length=s.parts.length:=by simp [nU] at hfc;omega
    have hfdl:o.dyns.length=s.parts.length:=by simp [nU] at hfd;omega
    obtain⟨c0,hc0⟩: ∃c,o.cells[i]'(by omega)=c:=⟨_,rfl⟩
    obtain⟨d0,hd0⟩: ∃c,o.dyns[i]'(by omega)=c:=⟨_,rfl⟩
    have hcg:o.cells[i]?=some c0:=by rw[List.getElem?_eq_getElem (by omega),hc0]
    have hdg:o.dyns[i]?=some d0:=by rw[List.getElem?_eq_getElem (by omega),hd0]
    have hc0l:c0.length=o.bars.length:=by
     have:=aIr hfc i (by omega);rw[hc0] at this;omega
    have hd0l:d0.length=o.bars.length:=by
     have:=aIr hfd i (by omega);rw[hd0] at this;omega
    rw[hm] at hc0l hd0l
    have oc:=Rl c0 (by omega) (hs0 c0 (by rw[←hc0];exact List.getElem_mem _))
    have od:=Qe d0 (by omega) (hy0 d0 (by rw[←hd0];exact List.getElem_mem _))
    rw[hc0l] at oc
    rw[hd0l] at od
    simp only[eH,bM,aU,aV] at oc od
    rw[aB6 hlt,htop,hc1,hd1]
    obtain⟨p,hp⟩: ∃p,s.parts[i]=p:=⟨_,rfl⟩
    rw[hp] at hc1 hd1 ⊢
    obtain⟨Z,hZ⟩: ∃Z,vO 2000300 qs s.parts i=Z:=⟨_,rfl⟩
    rw[hZ] at hZt hZK hZK3 ⊢
    obtain⟨K,hK⟩: ∃K,22+2*i=K:=⟨_,rfl⟩
    rw[hK] at hZK hZK3 ⊢
    obtain⟨K3,hK3⟩: ∃K3,K+1=K3:=⟨_,rfl⟩
    rw[hK3] at hZK3 ⊢
    obtain⟨B,hB⟩: ∃B,A++(.str p.name:: .int .i64 p.clef:: .int .i64 p.channel:: .msl K 0 s.bars.length 1:: .msl K3 0 s.bars.length 1::C)=B:=⟨_,rfl⟩
    rw[hB]
    have hBl:B.length=s.parts.length*5:=by rw[←hB];simp only[List.length_append,List.length_cons,hAl,hCl];omega
    have r1:(List.drop (i*5+3) B).head?=some (.msl K 0 s.bars.length 1):=by rw[←hB,←hAl,List.drop_length_add_append];rfl
    have r2:(List.drop (i*5+4) B).head?=some (.msl K3 0 s.bars.length 1):=by rw[←hB,←hAl,List.drop_length_add_append];rfl
    have hx1: ∀x,List.drop (i*5+4) (List.take (i*5+3) B++x::List.drop (i*5+4) B)=List.drop (i*5+4) B:=fun x=>by
     have:(List.take (i*5+3) B).length=i*5+3:=by rw[List.length_take];omega
     conv=>lhs;rw[show i*5+4=(List.take (i*5+3) B).length+1 by omega,List.drop_length_add_append]
     simp only[List.drop_succ_cons,List.drop_zero];congr 1;omega
    have hx2: ∀x,(List.take (i*5+3) B++x::List.drop (i*5+4) B).length=s.parts.length*5:=fun x=>by
     simp only[List.length_append,List.length_take,List.length_cons,List.length_drop];omega
    have p1: ∀n,n<22→(n=K)=False:=fun n h=>eq_false (by omega)
    have p2: ∀n,1000≤n→(n=K)=False:=fun n h=>eq_false (by omega)
    have n1: ∀n,n<22→(K=n)=False:=fun n h=>eq_false (by omega)
    have n2: ∀n,1000≤n→(K=n)=False:=fun n h=>eq_false (by omega)
    have n3: ∀n,n<22→(K3=n)=False:=fun n h=>eq_false (by omega)
    have n4: ∀n,1000≤n→(K3=n)=False:=fun n h=>eq_false (by omega)
    have n5:(K=K3)=False:=eq_false (by omega)
    have n6:(K3=K)=False:=eq_false (by omega)
    have n7: ∀n,n<22→(n=K3)=False:=fun n h=>eq_false (by omega)
    have n8: ∀n,1000≤n→(n=K3)=False:=fun n h=>eq_false (by omega)
    have hKb:K≤1000:=by omega
    have hK3b:K3≤1000:=by omega
    have k1:((i:Nat):Int)< ((s.parts.length:Nat):Int):=by omega
    have k3:i*5≤s.parts.length*5:=by omega
    have k4:i*5+3≤s.parts.length*5:=by omega
    have k5:i*5+4≤s.parts.length*5:=by omega
    have k5':i*5+5≤s.parts.length*5:=by omega
    have k6:1≤s.parts.length*5 - (i*5+3):=by omega
    have k7:1≤s.parts.length*5 - (i*5+4):=by omega
    have k8:((i:Nat):Int)< ((o.cells.length:Nat):Int):=by omega
    have k9:((i:Nat):Int)< ((o.dyns.length:Nat):Int):=by omega
    have hwr:IntKind.i64.wrap ((i:Int)+1)=(i:Int)+1:=wrap_in (by omega)
    have bK:PLift (22+2*i=K):=⟨hK⟩
    have bK3:PLift (K+1=K3):=⟨hK3⟩
    have bB:PLift (A++(.str p.name:: .int .i64 p.clef:: .int .i64 p.channel:: .msl K 0 s.bars.length 1:: .msl K3 0 s.bars.length 1::C)=B):=⟨hB⟩
    have bZ:PLift (vO 2000300 qs s.parts i=Z):=⟨hZ⟩
    have bp:PLift (s.parts[i]=p):=⟨hp⟩
    have bA:PLift (A=bV 2000300 (qs.take i)):=⟨hAe⟩
    have bC:PLift (C=bV (22+2*i+2) (s.parts.drop (i+1))):=⟨hCe⟩
    have btn:=PLift.up htn
    have hdZ: ∀n,2001200≤n→hdel Z n=Z:=fun n h=>gG (hZt.hi n (by omega))
    have ho1: ∀q r,(q=K∨q=K3)→2001200≤r→hsel [q,r] (iK Z)=[]:=fun q r hq hr=>(oC fun k hk=>by
     simp only[xI,Bool.or_eq_true,decide_eq_true_eq] at hk
     rcases hk with rfl|rfl
     ·rcases hq with rfl|rfl
      ·exact hZK
      ·exact hZK3
     ·exact hZt.hi _ (by omega)).1
    have ho2: ∀q r,(q=K∨q=K3)→2001200≤r→hkeep [q,r] (iK Z)=iK Z:=fun q r hq hr=>(oC fun k hk=>by
     simp only[xI,Bool.or_eq_true,decide_eq_true_eq] at hk
     rcases hk with rfl|rfl
     ·rcases hq with rfl|rfl
      ·exact hZK
      ·exact hZK3
     ·exact hZt.hi _ (by omega)).2
    have ho3: ∀q,(q=K∨q=K3)→hsel [q] (iK Z)=[]:=fun q hq=>(oC fun k hk=>by
     simp only[xJ,decide_eq_true_eq] at hk
     subst hk
     rcases hq with rfl|rfl
     ·exact hZK
     ·exact hZK3).1
    have ho4: ∀q,(q=K∨q=K3)→hkeep [q] (iK Z)=iK Z:=fun q hq=>(oC fun k hk=>by
     simp only[xJ,decide_eq_true_eq] at hk
     subst hk
     rcases hq with rfl|rfl
     ·exact hZK
     ·exact hZK3).2
    have hz1: ∀X:aG,hdel (hdel (gZ (iK Z++[(2001245,none),(2001246,none),(2001265,none),(2001266,none),(2001250,some X)])) 2001226) 2001225=Z++[(2001250,X)]:=fun X=>by
     have e:gZ [(2001245,none),(2001246,none),(2001265,none),(2001266,none),(2001250,some X)]=[(2001250,X)]:=by simp [gZ,hdel]
     rw[uZ,e,gG (k:=2001226),gG]<;>rw[bJ,hZt.hi _ (by omega)]<;>simp [hget]
    first
     |have aAu:=fun {q r nx:Nat} (h:q≠r)=>aRp hF hro p.cells c0 b (by omega) (by omega) m hc0l (q:=q) (r:=r) (nx:=nx) h (W:=W)
     |have aAu:=fun {q nx:Nat}=>aRq hF hro p.cells c0 b (by omega) (by omega) hc0l (q:=q) (nx:=nx) (W:=W)
    first
     |have aAv:=fun {q r nx:Nat} (h:q≠r)=>aRs hF hro p.dyns d0 b (by omega) (by omega) m hd0l (q:=q) (r:=r) (nx:=nx) h (W:=W)
     |have aAv:=fun {q nx:Nat}=>aRt hF hro p.dyns d0 b (by omega) (by omega) hd0l (q:=q) (nx:=nx) (W:=W)
    rw[hc1] at aAu
    rw[hd1] at aAv
    clear hK hK3 hB hZ hp htop hAe hCe hc0 hd0 htn
    simp only[aFq,Ox,cells2,dX]
    repeat' (first
   |simp -implicitDefEqProofs (maxSteps:=9999999) only[↓reduceIte,aB,aC,facts,Nat.reduceAdd,Nat.reduceEqDiff,Nat.reduceLT,Nat.reduceLeDiff,AV.cells,AV.one,Iz,Oy,dJ,dQ,fU,jR,List.length_drop,Int.natCast_nonneg,mW,Sl,eU,fC,aJ,aN,uA,mQ,lU,xZ,List.append_assoc,vN,Qb,Qc,xJ,xI,aX,bQ,aZ,bD,dC,bG, *]
   |((with_reducible refine dH 40 ?_);refine kD hF hro oc (rfl) ?_)
   |((with_reducible refine dH 42 ?_);refine kD hF hro od (rfl) ?_)
   |((with_reducible refine dH 53 ?_);refine jT [K,2001230] (st0:=⟨[(K,.cells (p.cells.flatMap eY)),(2001230,.cells (c0.flatMap eY))],2001250⟩) (by simp [nH,oZ,oW,xI,n1,n2,n3,n4,n5,n6,n7,n8,p1,p2,ho1,gZ]) (aAu (by omega)) (by simp) (by simp only[Nat.reduceLeDiff]) ?_)
   |((with_reducible refine dH 54 ?_);refine jT [K3,2001289] (st0:=⟨[(K3,.cells (p.dyns.flatMap fG)),(2001289,.cells (d0.flatMap fG))],2001309⟩) (by simp [nH,oZ,oW,xI,n1,n2,n3,n4,n5,n6,n7,n8,p1,p2,ho1,gZ,Iz,Oy]) (aAv (by omega)) (by simp) (by simp only[Nat.reduceLeDiff]) ?_)
   |((with_reducible refine dH 53 ?_);refine jT [K] (st0:=⟨[(K,.cells (p.cells.flatMap eY))],2001250⟩) (by simp [nH,oZ,oW,xJ,n1,n2,n3,n4,n5,n6,n7,n8,p1,p2,ho3,gZ,Iz,Oy]) aAu (by simp) (by simp only[Nat.reduceLeDiff]) ?_)
   |((with_reducible refine dH 54 ?_);refine jT [K3] (st0:=⟨[(K3,.cells (p.dyns.flatMap fG))],2001309⟩) (by simp [nH,oZ,oW,xJ,n1,n2,n3,n4,n5,n6,n7,n8,p1,p2,ho3,gZ,Iz,Oy]) aAv (by simp) (by simp only[Nat.reduceLeDiff]) ?_)
   |((with_reducible refine aQ ?_);refine bU (by decide+kernel) ?_)
   | ((with_reducible refine dN ?_ ?_);· (refine mG (fun n=>if n=K then 1500000 else if n=K3 then 1500001 else n) (wK (by omega) (by omega)) ?_;simp only[List.map_cons,List.map_nil,LE.ren,n1,n2,n3,n4,n5,n6,n7,n8,p1,p2,Nat.reduceLT,Nat.reduceLeDiff,↓reduceIte];kernel_rfl)))
    have hz2: ∀X Y:aG,hdel (hdel (gZ (iK Z++[(2001250,some X),(2001304,none),(2001305,none),(2001324,none),(2001325,none),(2001309,some Y)])) 2001285) 2001284=Z++[(2001250,X),(2001309,Y)]:=fun X Y=>by
     have e:gZ [(2001250,some X),(2001304,none),(2001305,none),(2001324,none),(2001325,none),(2001309,some Y)]=[(2001250,X),(2001309,Y)]:=by simp [gZ,hdel]
     rw[uZ,e,gG (k:=2001285),gG]<;>rw[bJ,hZt.hi _ (by omega)]<;>simp [hget]
    rw[hz2]
    have hK:=bK.down
    have hqi:qs[i]'(by omega)=p.ins c0 d0 b:=by
     simp only[←hqs,List.getElem_mapIdx,bp.down,inF,List.getD_eq_getElem?_getD,hcg,hdg,Option.getD_some]
    have fN: ∀j,j<2*i→dP 2000179 [(2001250,2000300+2*i,1),(2001309,2000300+2*i+1,1),(2000300,2000300,2*i)] (2000300+j)=some (2000300+j):=fun j hj=>by
     simp only[dP,jK]
     rw[if_neg (by omega),if_neg (by omega),if_neg (by omega),if_pos (by omega)];exact congrArg some (by omega)
    have f1:dP 2000179 [(2001250,2000300+2*i,1),(2001309,2000300+2*i+1,1),(2000300,2000300,2*i)] 2001250=some (2000300+2*i):=by simp [dP,jK]
    have f2:dP 2000179 [(2001250,2000300+2*i,1),(2001309,2000300+2*i+1,1),(2000300,2000300,2*i)] 2001309=some (2000300+2*i+1):=by simp [dP,jK]
    have fK: ∀k,k<2000179→dP 2000179 [(2001250,2000300+2*i,1),(2001309,2000300+2*i+1,1),(2000300,2000300,2*i)] k=some k:=fun k h=>if_pos h
    refine dM i () hlt rfl (by omega) (dP 2000179 [(2001250,2000300+2*i,1),(2001309,2000300+2*i+1,1),(2000300,2000300,2*i)]) (zF 2000179 [(2001250,2000300+2*i,1),(2001309,2000300+2*i+1,1),(2000300,2000300,2*i)]) (dF.seg (by simp [oO];omega) (by omega) rfl) ?_ rfl ?_
    ·refine aF.eqR (t:=aFq s o b 2000153 (Ez 2000300 qs s.parts (i+1))++wP 2000300 qs s.parts (i+1)) ?_ (by simp only[aFq,Ox,cells2,dX,hm,List.cons_append,List.nil_append,Int.cast_ofNat_Int])
     refine aEr (qs:=qs) (ps:=s.parts) ?_ (by omega) hnp hlt hql (fun k b' hk'=>?_) (fun k h=>fK k (by omega)) fN 2001250 2001309 f1 f2 ?_ ?_
     ·refine aF.cons 2000024 rfl rfl (by rw[hm];rfl) (aF.cons 20 rfl rfl ?_ (aF.cons 2000153 rfl rfl (nD _) (aF.cons 9 rfl rfl rfl (aF.cons 3 rfl rfl rfl (aF.cons 2 rfl rfl rfl (aF.cons 1 rfl rfl rfl (aF.cons 0 rfl rfl rfl aF.nil)))))))
      rw[←bB.down]
      refine(congrArg (List.map (AV.ren _)) (aH1 hAl)).trans ?_
      rw[btn.down,hqi,bA.down,bC.down,List.map_append,lS 2000300 2000300 _ (fun j hj=>fN j (by rw[List.length_take] at hj;omega))]
      simp only[List.map_cons,AV.ren,f1,f2]
      rw[lS (22+2*i+2) (22+2*i+2) _ (fun j hj=>fK _ (by rw[List.length_drop] at hj;omega))]
      rfl
     ·have:=aB8 (by omega) hnp hlt hk'
      rw[bZ.down] at hk'
      dsimp only
      repeat rw[aW (by omega)]
      rw[bJ,hk']
     ·rw[hqi]
      dsimp only
      repeat rw[aW (by omega)]
      rw[bJ,hZt.hi _ (by omega)];simp [hget,Pa.ins]
     ·rw[hqi]
      dsimp only
      repeat rw[aW (by omega)]
      rw[bJ,hZt.hi _ (by omega)];simp [hget,Pa.ins]
    ·simp [Fr.renF,kH,jQ,mkM',Nat.beq,AV.ren,dP,hwr]
  · have he:i=s.parts.length:=by omega
    subst he
    rw[aL5 hql,aH0 hql]
    have hT:iC 2000300 2001200 (hC (dS 2000300 (iG qs))):=(iC.fam (m:=2001200) (by rw[iV];omega))
    have hqe:(pG s o b).parts=qs:=hqs
    obtain⟨T2,hT2⟩: ∃T,hC (dS 2000300 (iG qs))=T:=⟨_,rfl⟩
    rw[hT2] at hT ⊢
    have bT2:PLift (hC (dS 2000300 (iG qs))=T2):=⟨hT2⟩
    clear hT2
    simp only[aFq,Ox,cells2,dX]
    repeat' (first
   |simp -implicitDefEqProofs (maxSteps:=9999999) only[↓reduceIte,aB,aC,facts,Nat.reduceAdd,Nat.reduceEqDiff,Nat.reduceLT,Nat.reduceLeDiff,AV.cells,AV.one,fU,List.length_drop,Int.natCast_nonneg,aX,bQ,aZ,bD,dC,bG, *]
   | ((with_reducible refine aH (fun _=>?_) (fun _=>?_))<;>try omega))
    rw[show(Zn o b).av=AV.agg (.int .i64 (if(3:Int)=0 then o.kind else 3)::[.int .i64 0,.int .i64 (b:Nat),.int .i64 0,.int .i64 0,.int .i64 (o.bars.length:Nat),.sl 9 [] .none,.sl 14 [] .none,.sl 1 [] .none,.sl 1 [] .none,.int .i64 0,.int .i64 0,.str ⟨#[]⟩]) from rfl]
    refine⟨0,rfl,.inr ⟨rfl,.str s.title,.msl 2000153 0 (pG s o b).bars.length 14,.msl 20 0 (pG s o b).parts.length 5,3,.int .i64 0,.int .i64 (b:Nat),.int .i64 0,.int .i64 0,.int .i64 (o.bars.length:Nat),.sl 9 [] .full,.sl 14 [] .full,.sl 1 [] .full,.sl 1 [] .full,.int .i64 0,.int .i64 0,.str ⟨#[]⟩,(20,.cells (bV 2000300 (pG s o b).parts))::(2000153,.cells ((pG s o b).bars.flatMap Ba.cells))::hC (dS 2000300 (iG (pG s o b).parts)),⟨by simp only[Nat.reduceLeDiff],?_⟩,
     aHy (s':=pG s o b) (by rw[hqe];omega) (by omega) rfl (fun _=>rfl) hts (by simp [AV.one])⟩⟩
    rw[hqe,bT2.down,hql]
    simp only[St.hp,eG,dX,aK.cells13,hk,HB,hm,pG,List.cons_append,List.nil_append]
    (refine aA (by simp [hget]) (aA (by simp [hget]) (aA (by simp [hget]) (aA (by simp [hget]) (aA (by simp [hget]) (aA (by simp [hget]) (aA (by simp [hget]) (aA (by simp [hget]) (fun k b h=>?_))))))));have hmm:=hT.mem h;(repeat(first|rw[aW (by omega)]|rw[qZ (by omega)]));exact h)
end Go.Proofs.Pv
namespace Go.Proofs.Pv
open Go Go.Proofs
set_option maxRecDepth 100000
set_option maxHeartbeats 4000000
theorem aKo (s:Sc) (o:aK) (hk:o.kind=2) (hs:s.bars.length≤1000000) (h1: ¬(0≤o.bar∧o.bar< ((s.bars.length:Nat):Int)+1)) {F:Fence} (hF:Free F) (hro:F.round=none) {W:World}:aO F Tryz.prog gl W 18 [.ptr 2000024 0] (MK s o (fun v=>v=errR 90)) ⟨gU oK s o,2000068⟩:=by
 rw[gU,eG,dX]
 generalize lD oK s=T
 have hw:IntKind.i64.wrap (((s.bars.length:Nat):Int)+1)=((s.bars.length:Nat):Int)+1:=wrap_in (by omega)
 (refine aO.introZ hF hro 2 mix names (fn:=Tryz.f18) Tryz.func18 rfl ?_;simp -implicitDefEqProofs only[Tryz.ntmps18,Tryz.results18,aI,Nat.reduceAdd,Nat.reduceSub])
 repeat' (first
  |simp -implicitDefEqProofs (maxSteps:=9999999) only[↓reduceIte,aB,aC,facts,Nat.reduceAdd,Nat.reduceEqDiff,Nat.reduceLeDiff,Option.map_none,aK.cells13, *]
  |((with_reducible refine aT 45 ?_);refine PC.useZ hF (rQ _ _ h1) (rfl) fun v hv=>?_;subst hv))
 (refine jD (by decide) (by simp only[Nat.reduceLeDiff]) rfl ?_;simp only[eG,dX,aK.cells13,hk];exact aA (by simp [hget]) (aA (by simp [hget]) (aA (by simp [hget]) (aA (by simp [hget]) (aA (by simp [hget]) fun k b h=>by cases h)))))
theorem aKp (s:Sc) (o:aK) (hk:o.kind=2) (hs:s.bars.length≤1000000) (h1:0≤o.bar∧o.bar< ((s.bars.length:Nat):Int)+1) (hcl:o.cells.length≤1000000) (hdl:o.dyns.length≤1000000) (h2: ¬(nU s.parts.length o.bars.length o.cells=true∧nU s.parts.length o.bars.length o.dyns=true)) {F:Fence} (hF:Free F) (hro:F.round=none) {W:World}:aO F Tryz.prog gl W 18 [.ptr 2000024 0] (MK s o (fun v=>v=errR 90)) ⟨gU oK s o,2000068⟩:=by
 have hvr:=Ym s.title (.msl 21 0 s.bars.length 14) (.int .i64 2) (.int .i64 o.part) (.int .i64 o.bar) (.int .i64 o.voice) (.int .i64 o.at_) (.int .i64 o.count) (.sl 9 (o.events.map Ev.av) .none) s.parts.length o.cells o.bars (.sl 1 (o.cells.map dJ) .none:: .sl 1 (o.dyns.map dQ) .none:: .int .i64 o.steps:: .int .i64 o.halves:: .str o.text::dX) hcl (fun f hf=>by simp only[dX,List.map_cons,List.map_nil,AV.ren,hf 20 (by decide),hf 21 (by decide)])
 have hdr:=Yn s.title (.msl 21 0 s.bars.length 14) (.int .i64 2) (.int .i64 o.part) (.int .i64 o.bar) (.int .i64 o.voice) (.int .i64 o.at_) (.int .i64 o.count) (.sl 9 (o.events.map Ev.av) .none) s.parts.length o.dyns o.bars (.sl 1 (o.cells.map dJ) .none:: .sl 1 (o.dyns.map dQ) .none:: .int .i64 o.steps:: .int .i64 o.halves:: .str o.text::dX) hdl (fun f hf=>by simp only[dX,List.map_cons,List.map_nil,AV.ren,hf 20 (by decide),hf 21 (by decide)])
 simp only[dX] at hvr hdr
 rw[gU,eG,dX]
 generalize lD oK s=T
 have hw:IntKind.i64.wrap (((s.bars.length:Nat):Int)+1)=((s.bars.length:Nat):Int)+1:=wrap_in (by omega)
 by_cases h3:nU s.parts.length o.bars.length o.cells=true
 ·have h4:nU s.parts.length o.bars.length o.dyns=false:=by
   cases h:nU s.parts.length o.bars.length o.dyns with
   |false=>rfl
   |true=>exact absurd ⟨h3,h⟩ h2
  rw[h3] at hvr
  rw[h4] at hdr
  clear h2 h3 h4
  (refine aO.introZ hF hro 2 mix names (fn:=Tryz.f18) Tryz.func18 rfl ?_;simp -implicitDefEqProofs only[Tryz.ntmps18,Tryz.results18,aI,Nat.reduceAdd,Nat.reduceSub])
  repeat' (first
  |simp -implicitDefEqProofs (maxSteps:=9999999) only[↓reduceIte,aB,aC,facts,Nat.reduceAdd,Nat.reduceEqDiff,Nat.reduceLeDiff,aK.cells13, *]
  |((with_reducible refine aT 45 ?_);refine PC.useZ hF (gV _ _ h1) (rfl) fun v hv=>?_;subst hv)
  |((with_reducible refine aT 50 ?_);refine lX (Rd.call hF hvr (Ky rfl) ?_))
  |((with_reducible refine aT 51 ?_);refine lX (Rd.call hF hdr (Ky rfl) ?_)))
  (refine jD (by decide) (by simp only[Nat.reduceLeDiff]) rfl ?_;simp only[eG,dX,aK.cells13,hk];exact aA (by simp [hget]) (aA (by simp [hget]) (aA (by simp [hget]) (aA (by simp [hget]) (aA (by simp [hget]) fun k b h=>by cases h)))))
 ·have h4:nU s.parts.length o.bars.length o.cells=false:=by simpa using h3
  rw[h4] at hvr
  clear h2 h3 h4 hdr
  (refine aO.introZ hF hro 2 mix names (fn:=Tryz.f18) Tryz.func18 rfl ?_;simp -implicitDefEqProofs only[Tryz.ntmps18,Tryz.results18,aI,Nat.reduceAdd,Nat.reduceSub])
  repeat' (first
  |simp -implicitDefEqProofs (maxSteps:=9999999) only[↓reduceIte,aB,aC,facts,Nat.reduceAdd,Nat.reduceEqDiff,Nat.reduceLeDiff,Option.map_none,aK.cells13, *]
  |((with_reducible refine aT 45 ?_);refine PC.useZ hF (gV _ _ h1) (rfl) fun v hv=>?_;subst hv)
  |((with_reducible refine aT 50 ?_);refine lX (Rd.call hF hvr (Ky rfl) ?_)))
  (refine jD (by decide) (by simp only[Nat.reduceLeDiff]) rfl ?_;simp only[eG,dX,aK.cells13,hk];exact aA (by simp [hget]) (aA (by simp [hget]) (aA (by simp [hget]) (aA (by simp [hget]) (aA (by simp [hget]) fun k b h=>by cases h)))))
theorem aKq (s:Sc) (o:aK) (hk:o.kind=3) (hs:s.bars.length≤1000000) (hi: -9223372036854775808≤o.bar∧o.bar≤9223372036854775807) (h1: ¬(0≤o.bar∧0≤o.count∧o.bar≤((s.bars.length:Nat):Int)∧o.count≤((s.bars.length:Nat):Int) - o.bar)) {F:Fence} (hF:Free F) (hro:F.round=none) {W:World}:aO F Tryz.prog gl W 19 [.ptr 2000024 0] (MK s o (fun v=>v=errR 90)) ⟨gU oK s o,2000068⟩:=by
 rw[gU,eG,dX]
 generalize lD oK s=T
 (refine aO.introZ hF hro 2 mix names (fn:=Tryz.f19) Tryz.func19 rfl ?_;simp -implicitDefEqProofs only[Tryz.ntmps19,Tryz.results19,aI,Nat.reduceAdd,Nat.reduceSub])
 repeat' (first
  |simp -implicitDefEqProofs (maxSteps:=9999999) only[↓reduceIte,aB,aC,facts,Nat.reduceAdd,Nat.reduceEqDiff,Nat.reduceLeDiff,aK.cells13,fU,dY,bQ,aZ,bD,bG, *]
  |((with_reducible refine aQ ?_);refine bU (by decide+kernel) ?_)
  |((with_reducible refine dN ?_ ?_);· decide+kernel)
  |((with_reducible refine aT 46 ?_);refine PC.useZ hF (aOa _ _ _ hi (by omega) h1) (rfl) fun v hv=>?_;subst hv))
 (refine jD (by decide) (by simp only[Nat.reduceLeDiff]) rfl ?_;simp only[eG,dX,aK.cells13,hk];exact aA (by simp [hget]) (aA (by simp [hget]) (aA (by simp [hget]) (aA (by simp [hget]) (aA (by simp [hget]) fun k b h=>by cases h)))))
end Go.Proofs.Pv
