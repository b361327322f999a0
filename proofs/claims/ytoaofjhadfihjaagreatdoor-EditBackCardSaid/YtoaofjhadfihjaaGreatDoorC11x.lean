/-
Layer 9's edits: bars that are put in.
Conditions: none but those that each statement names.
-/
import Derived.Test.YtoaofjhadfihjaaGreatDoorC11u
set_option linter.unusedVariables false
set_option linter.unusedSimpArgs false
set_option maxRecDepth 100000
set_option maxHeartbeats 16000000
namespace Go.Proofs.Pv
open Go Go.Proofs
theorem Nj {h:List (Nat×aI)} {nx q:Nat} {X:aI} (e:hget h q=some X): ∀k b,hget [(q,X)] k=some b->(⟨h,nx⟩:St).hp k=some b:=by
 intro k b hk
 simp only[hget] at hk
 split at hk
 ·rename_i e2;subst e2;rw[<-hk];exact e
 ·cases hk
def Eh (o:aH) (b:Nat) (j:Nat) (p:Pa):Pa:=p.ins (o.cells.getD j []) (o.dyns.getD j []) b
def iL (s:Sc) (o:aH) (b:Nat):Sc:=⟨s.title,insL s.bars o.bars b,s.parts.mapIdx (Eh o b)⟩
def Hq (o:aH) (b:Nat):aH:=⟨3,0,b,0,0,o.bars.length,[],[],[],[],0,0,⟨#[]⟩⟩
def cells2 (o:aH) (b:Nat):List AV:=[.int .i64 2,.int .i64 o.part,.int .i64 (b:Nat),.int .i64 o.voice,.int .i64 o.at_,.int .i64 o.count,.sl 9 (o.events.map Ev.av) .none,.sl 14 (o.bars.map Ba.av) .none,.sl 1 (o.cells.map dM) .none,.sl 1 (o.dyns.map dV) .none,.int .i64 o.steps,.int .i64 o.halves,.str o.text]
def Qb (s:Sc) (c:List AV):List (Nat×aI):=[(9,.cells [.int .i64 s.checkR.1.1,.int .i64 s.checkR.1.2.1,.int .i64 s.checkR.1.2.2.1,.int .i64 s.checkR.1.2.2.2]),(3,.cells eG),(2,.cells [.str ⟨#[]⟩,.sl 14 [] .full,.sl 5 [] .full]),(1,.cells c),(0,.cells [.str s.title,.sl 14 (s.bars.map Ba.av) .none,.sl 5 (s.parts.map Pa.av) .none])]
def aFw (s:Sc) (o:aH) (b kq:Nat) (top:List AV):List (Nat×aI):=(2000024,.cells (.str s.title:: .msl kq 0 (insL s.bars o.bars b).length 14:: .msl 20 0 s.parts.length 5::(cells2 o b++[.int .i64 3,.int .i64 0,.int .i64 (b:Nat),.int .i64 0,.int .i64 0,.int .i64 (o.bars.length:Nat),.sl 9 [] .full,.sl 14 [] .full,.sl 1 [] .full,.sl 1 [] .full,.int .i64 0,.int .i64 0,.str ⟨#[]⟩])))::(20,.cells top)::(kq,.cells ((insL s.bars o.bars b).flatMap Ba.cells))::Qb s (cells2 o b)
theorem aG.eqR {f:Nat->Option Nat} {h t t':List (Nat×aI)} (hr:aG f h t) (e:t'=t):aG f h t':=e ▸ hr
theorem Qc {k:Nat} {b:aI}:iU [(k,b)]=[(k,some b)]:=rfl
theorem aBt {α:Type} {np nb:Nat} {l:List (List α)} (h:mJ np nb l=true) (i:Nat) (hi:i<l.length):l[i].length=nb:=by
 apply Classical.byContradiction
 intro hne
 rw[Xu hi hne] at h;cases h
theorem aQ9 (s:Sc) (o:aH) (hk:o.kind=2) (hs:s.small) (hg:s.goodU pU) (hcd: ∀p∈s.parts,p.cells.length=s.bars.length/\p.dyns.length=s.bars.length) (b:Nat) (hb:b<=s.bars.length) (HB:o.bar=(b:Nat)) (hbr: ∀x∈o.bars,x.short) (hbl:s.bars.length<=400000) (hnb:o.bars.length<=400000)
   (hfc:mJ s.parts.length o.bars.length o.cells=true) (hfd:mJ s.parts.length o.bars.length o.dyns=true) (hs0: ∀c∈o.cells,∀x∈c,wU x) (hy0: ∀d∈o.dyns,∀x∈d,x.length<=1000000) (hts:(iL s o b).small) {F:Fence} (hF:Free F) (hro:F.round=none) {W:World}:aP F Tryz.prog gl W 19 [.ptr 2000024 0] (MK s o (fun v=>v=uU (iL s o b) (Hq o b).av)) ⟨iD pU s o,2000068⟩:=by
 have hT:=TC_t hg.hi
 have hnp:=hg.hi
 have hpl:(cZ 22 s.parts).length=s.parts.length*5:=kW _ _
 have ob:=Qw o.bars (by omega) hbr
 have hvr:=Zg s.title (.msl 21 0 s.bars.length 14) (.int .i64 2) (.int .i64 o.part) (.int .i64 (b:Nat)) (.int .i64 o.voice) (.int .i64 o.at_) (.int .i64 o.count) (.sl 9 (o.events.map Ev.av) .none) s.parts.length o.cells o.bars (.sl 1 (o.cells.map dM) .none:: .sl 1 (o.dyns.map dV) .none:: .int .i64 o.steps:: .int .i64 o.halves:: .str o.text::eG) (by simp [mJ] at hfc;omega) (fun f hf=>by simp only[eG,List.map_cons,List.map_nil,AV.ren,hf 20 (by decide),hf 21 (by decide)])
 have hdr:=Zh s.title (.msl 21 0 s.bars.length 14) (.int .i64 2) (.int .i64 o.part) (.int .i64 (b:Nat)) (.int .i64 o.voice) (.int .i64 o.at_) (.int .i64 o.count) (.sl 9 (o.events.map Ev.av) .none) s.parts.length o.dyns o.bars (.sl 1 (o.cells.map dM) .none:: .sl 1 (o.dyns.map dV) .none:: .int .i64 o.steps:: .int .i64 o.halves:: .str o.text::eG) (by simp [mJ] at hfd;omega) (fun f hf=>by simp only[eG,List.map_cons,List.map_nil,AV.ren,hf 20 (by decide),hf 21 (by decide)])
 rw[hfc] at hvr
 rw[hfd] at hdr
 simp only[eG] at hvr hdr
 obtain⟨mm,hm⟩: ∃mm,o.bars.length=mm:=⟨_,rfl⟩
 rcases mm with _|m
 all_goals
  rw[hm] at ob
  simp only[dY,bJ,aX,aY] at ob
  have hw:IntKind.i64.wrap (((s.bars.length:Nat):Int)+1)=((s.bars.length:Nat):Int)+1:=wrap_in (by omega)
  rw[iD,eU,eG]
  rw[aEz]
  obtain⟨T,hTe⟩: ∃T,TC s.parts=T:=⟨_,rfl⟩
  rw[hTe] at hT ⊢
  have hdT: ∀n,1000000<=n->hdel T n=T:=fun n h=>gY (hT.hi n (by omega))
  have bT:PLift (TC s.parts=T):=⟨hTe⟩
  clear hTe
  have ho1: ∀r,1000000<=r->hsel [21,r] (iU T)=[]:=fun r hr=>(pI fun k hk=>by
    simp only[xN,Bool.or_eq_true,decide_eq_true_eq] at hk
    rcases hk with rfl|rfl
    ·exact hT.lo _ (by omega)
    ·exact hT.hi _ (by omega)).1
  have ho2: ∀r,1000000<=r->hkeep [21,r] (iU T)=iU T:=fun r hr=>(pI fun k hk=>by
    simp only[xN,Bool.or_eq_true,decide_eq_true_eq] at hk
    rcases hk with rfl|rfl
    ·exact hT.lo _ (by omega)
    ·exact hT.hi _ (by omega)).2
  have ho3:hsel [21] (iU T)=[]:=(pI fun k hk=>by
    simp only[xO,decide_eq_true_eq] at hk
    subst hk
    exact hT.lo _ (by omega)).1
  have ho4:hkeep [21] (iU T)=iU T:=(pI fun k hk=>by
    simp only[xO,decide_eq_true_eq] at hk
    subst hk
    exact hT.lo _ (by omega)).2
  (refine aP.introZ hF hro 3 mix names (fn:=Tryz.f19) Tryz.func19 rfl ?_;simp only[Tryz.ntmps19,Tryz.results19,aJ,Nat.reduceAdd,Nat.reduceSub])
  repeat' (first
   |simp -implicitDefEqProofs (maxSteps:=9999999) only[↓reduceIte,aA,aC,facts,Nat.reduceAdd,Nat.reduceEqDiff,Nat.reduceLT,Nat.reduceLeDiff,AV.cells,AV.one,aH.cells13,HB,fV,List.length_drop,Int.natCast_nonneg,mZ,Ji,eX,fH,aK,aN,nT,nD,yR,List.append_assoc,wH,Qr,Qs,xO,xN,aT,bF,aU,aV,dA,aW, *]
   |((with_reducible refine dG 38 ?_);refine kQ hF hro ob (rfl) ?_)
   |((with_reducible refine dG 53 ?_);refine kH [21,2000134] (st0:=⟨[(21,.cells (s.bars.flatMap Ba.cells)),(2000134,.cells (o.bars.flatMap Ba.cells))],2000153⟩) (by simp [nZ,qB,qA,xN,ho1,jA]) (aSm hF hro s.bars o.bars b hb (by omega) m hm (q:=21) (r:=2000134) (nx:=2000153) (by decide)) (by simp) (by simp only[Nat.reduceLeDiff]) ?_)
   |((with_reducible refine dG 53 ?_);refine kH [21] (st0:=⟨[(21,.cells (s.bars.flatMap Ba.cells))],2000153⟩) (by simp [nZ,qB,qA,xO,ho3,jA]) (aSn hF hro s.bars o.bars b hb (by omega) hm (q:=21) (nx:=2000153)) (by simp) (by simp only[Nat.reduceLeDiff]) ?_)
   |((with_reducible refine aO ?_);refine bM (by decide+kernel) ?_)
   |((with_reducible refine dP ?_ ?_);· decide+kernel)
   |((with_reducible refine aS 46 ?_);refine PC.useZ hF (iF _ _ (by omega)) (rfl) fun v hv=>?_;subst hv)
   |((with_reducible refine aS 51 ?_);refine nG (Rd.call hF hvr (Nj rfl) ?_))
   |((with_reducible refine aS 52 ?_);refine nG (Rd.call hF hdr (Nj rfl) ?_)))
  have hzz:jA [(2000147,none),(2000148,none),(2000166,none),(2000167,none),(2000153,some (aI.cells (List.flatMap Ba.cells (insL s.bars o.bars b))))]=[(2000153,aI.cells (List.flatMap Ba.cells (insL s.bars o.bars b)))]:=by simp [jA,hdel]
  rw[vX,hzz]
  obtain⟨qs,hqs⟩: ∃qs,s.parts.mapIdx (Eh o b)=qs:=⟨_,rfl⟩
  have hql:qs.length=s.parts.length:=by rw[<-hqs,List.length_mapIdx]
  have f0: ∀k,k<2000179->bI 2000179 [] k=some k:=fun k h=>if_pos h
  refine jU (fE 124 [0,3,76,77]) 2001200 s.parts.length (fun i (_:Unit)=>⟨[.ptr 2000024 0,.ud,.ud,.int .i64 (b:Nat),.ud,.ud,.ud,.ud,.ud,.ud,.ud,.ud,.ud,.ud,.ud,.ud,.ud,.ud,.ud,.ud,.ud,.ud,.ud,.ud,.ud,.ud,.ud,.ud,.ud,.ud,.ud,.ud,.ud,.ud,.ud,.ud,.ud,.ud,.ud,.ud,.ud,.ud,.ud,.ud,.ud,.ud,.ud,.ud,.ud,.ud,.ud,.ud,.ud,.ud,.ud,.ud,.ud,.ud,.ud,.ud,.ud,.ud,.ud,.ud,.ud,.ud,.ud,.ud,.ud,.ud,.ud,.ud,.ud,.ud,.ud,.ud,.int .i64 (s.parts.length:Nat),.int .i64 (i:Nat),.ud,.ud,.ud,.ud,.ud,.ud,.ud,.ud,.ud,.ud,.ud,.ud,.ud,.ud,.ud,.ud,.ud,.ud,.ud,.ud,.ud,.ud,.ud,.ud,.ud,.ud,.ud,.ud,.ud,.ud,.ud,.ud,.ud,.ud,.ud,.ud,.ud,.ud,.ud,.ud,.ud,.ud,.ud,.ud,.ud,.ud],[]⟩) (fun i _=>⟨aFw s o b 2000153 (Gq 2000300 qs s.parts i)++xG 2000300 qs s.parts i,2001200⟩) (fun i _=>i<401) ⟨(),by omega,bI 2000179 [],gK 2000179 [],dH.of_fit rfl rfl rfl,?_,rfl,rfl⟩ ?_
  · rw[aMj,aIb]
    refine aG.app (aG.cons 2000024 rfl rfl (by rw[hm];rfl) (aG.cons 20 rfl rfl (mP 22 22 s.parts fun q hq=>f0 _ (by omega)) (aG.cons 2000153 ?_ rfl (nT _) (aG.cons 9 rfl rfl rfl (aG.cons 3 rfl rfl rfl (aG.cons 2 rfl rfl rfl (aG.cons 1 rfl rfl rfl (aG.cons 0 rfl rfl rfl aG.nil)))))))) (aG.famM (Bz _) (fun j hj=>f0 _ (by rw[jD] at hj;omega)) fun j hj=>?_)
    ·repeat rw[bD (by omega)]
     rw[iT,if_neg (by omega),iT,if_neg (by omega),bV,hT.hi _ (by omega)];simp [hget]
    ·have hj2:=hj
     rw[jD] at hj2
     repeat rw[bD (by omega)]
     rw[iT,if_neg (by omega),iT,if_neg (by omega),bV,<-bT.down,TC,iM hj]
  clear hvr hdr ob ho1 ho2 ho3 ho4 hdT hzz hT bT f0
  rintro i x hi hi2
  rcases Nat.lt_or_ge i s.parts.length with hlt|hge
  · obtain⟨hc1,hd1⟩:=hcd _ (List.getElem_mem hlt)
    obtain⟨A,C,hAl,hAe,hCe,htop⟩:=aE0 (N:=2000300) (qs:=qs) hlt hql
    have htn:=aCj (N:=2000300) (qs:=qs) hlt hql
    have hZt:=aBe (N:=2000300) (qs:=qs) (by omega) hnp hlt
    have hZK:=Iz (N:=2000300) (qs:=qs) (by omega) hnp hlt (k:=22+2*i) (by omega)
    have hZK3:=Iz (N:=2000300) (qs:=qs) (by omega) hnp hlt (k:=22+2*i+1) (by omega)
    have hCl:C.length=(s.parts.length - (i+1))*5:=by rw[hCe,kW,List.length_drop]
    have hfcl:o.cells.length=s.parts.length:=by simp [mJ] at hfc;omega
    have hfdl:o.dyns.length=s.parts.length:=by simp [mJ] at hfd;omega
    obtain⟨c0,hc0⟩: ∃c,o.cells[i]'(by omega)=c:=⟨_,rfl⟩
    obtain⟨d0,hd0⟩: ∃c,o.dyns[i]'(by omega)=c:=⟨_,rfl⟩
    have hcg:o.cells[i]?=some c0:=by rw[List.getElem?_eq_getElem (by omega),hc0]
    have hdg:o.dyns[i]?=some d0:=by rw[List.getElem?_eq_getElem (by omega),hd0]
    have hc0l:c0.length=o.bars.length:=by
     have:=aBt hfc i (by omega);rw[hc0] at this;omega
    have hd0l:d0.length=o.bars.length:=by
     have:=aBt hfd i (by omega);rw[hd0] at this;omega
    rw[hm] at hc0l hd0l
    have oc:=Tc c0 (by omega) (hs0 c0 (by rw[<-hc0];exact List.getElem_mem _))
    have od:=Qv d0 (by omega) (hy0 d0 (by rw[<-hd0];exact List.getElem_mem _))
    rw[hc0l] at oc
    rw[hd0l] at od
    simp only[dY,bJ,aX,aY] at oc od
    rw[aCi hlt,htop,hc1,hd1]
    obtain⟨p,hp⟩: ∃p,s.parts[i]=p:=⟨_,rfl⟩
    rw[hp] at hc1 hd1 ⊢
    obtain⟨Z,hZ⟩: ∃Z,wJ 2000300 qs s.parts i=Z:=⟨_,rfl⟩
    rw[hZ] at hZt hZK hZK3 ⊢
    obtain⟨K,hK⟩: ∃K,22+2*i=K:=⟨_,rfl⟩
    rw[hK] at hZK hZK3 ⊢
    obtain⟨K3,hK3⟩: ∃K3,K+1=K3:=⟨_,rfl⟩
    rw[hK3] at hZK3 ⊢
    obtain⟨B,hB⟩: ∃B,A++(.str p.name:: .int .i64 p.clef:: .int .i64 p.channel:: .msl K 0 s.bars.length 1:: .msl K3 0 s.bars.length 1::C)=B:=⟨_,rfl⟩
    rw[hB]
    have hBl:B.length=s.parts.length*5:=by rw[<-hB];simp only[List.length_append,List.length_cons,hAl,hCl];omega
    have r1:(List.drop (i*5+3) B).head?=some (.msl K 0 s.bars.length 1):=by rw[<-hB,<-hAl,List.drop_length_add_append];rfl
    have r2:(List.drop (i*5+4) B).head?=some (.msl K3 0 s.bars.length 1):=by rw[<-hB,<-hAl,List.drop_length_add_append];rfl
    have hx1: ∀x,List.drop (i*5+4) (List.take (i*5+3) B++x::List.drop (i*5+4) B)=List.drop (i*5+4) B:=fun x=>by
     have:(List.take (i*5+3) B).length=i*5+3:=by rw[List.length_take];omega
     conv=>lhs;rw[show i*5+4=(List.take (i*5+3) B).length+1 by omega,List.drop_length_add_append]
     simp only[List.drop_succ_cons,List.drop_zero];congr 1;omega
    have hx2: ∀x,(List.take (i*5+3) B++x::List.drop (i*5+4) B).length=s.parts.length*5:=fun x=>by
     simp only[List.length_append,List.length_take,List.length_cons,List.length_drop];omega
    have p1: ∀n,n<22->(n=K)=False:=fun n h=>eq_false (by omega)
    have p2: ∀n,1000<=n->(n=K)=False:=fun n h=>eq_false (by omega)
    have n1: ∀n,n<22->(K=n)=False:=fun n h=>eq_false (by omega)
    have n2: ∀n,1000<=n->(K=n)=False:=fun n h=>eq_false (by omega)
    have n3: ∀n,n<22->(K3=n)=False:=fun n h=>eq_false (by omega)
    have n4: ∀n,1000<=n->(K3=n)=False:=fun n h=>eq_false (by omega)
    have n5:(K=K3)=False:=eq_false (by omega)
    have n6:(K3=K)=False:=eq_false (by omega)
    have n7: ∀n,n<22->(n=K3)=False:=fun n h=>eq_false (by omega)
    have n8: ∀n,1000<=n->(n=K3)=False:=fun n h=>eq_false (by omega)
    have hKb:K<=1000:=by omega
    have hK3b:K3<=1000:=by omega
    have k1:((i:Nat):Int)< ((s.parts.length:Nat):Int):=by omega
    have k3:i*5<=s.parts.length*5:=by omega
    have k4:i*5+3<=s.parts.length*5:=by omega
    have k5:i*5+4<=s.parts.length*5:=by omega
    have k5':i*5+5<=s.parts.length*5:=by omega
    have k6:1<=s.parts.length*5 - (i*5+3):=by omega
    have k7:1<=s.parts.length*5 - (i*5+4):=by omega
    have k8:((i:Nat):Int)< ((o.cells.length:Nat):Int):=by omega
    have k9:((i:Nat):Int)< ((o.dyns.length:Nat):Int):=by omega
    have hwr:IntKind.i64.wrap ((i:Int)+1)=(i:Int)+1:=wrap_in (by omega)
    have bK:PLift (22+2*i=K):=⟨hK⟩
    have bK3:PLift (K+1=K3):=⟨hK3⟩
    have bB:PLift (A++(.str p.name:: .int .i64 p.clef:: .int .i64 p.channel:: .msl K 0 s.bars.length 1:: .msl K3 0 s.bars.length 1::C)=B):=⟨hB⟩
    have bZ:PLift (wJ 2000300 qs s.parts i=Z):=⟨hZ⟩
    have bp:PLift (s.parts[i]=p):=⟨hp⟩
    have bA:PLift (A=cZ 2000300 (qs.take i)):=⟨hAe⟩
    have bC:PLift (C=cZ (22+2*i+2) (s.parts.drop (i+1))):=⟨hCe⟩
    have btn:=PLift.up htn
    have hdZ: ∀n,2001200<=n->hdel Z n=Z:=fun n h=>gY (hZt.hi n (by omega))
    have ho1: ∀q r,(q=K\/q=K3)->2001200<=r->hsel [q,r] (iU Z)=[]:=fun q r hq hr=>(pI fun k hk=>by
     simp only[xN,Bool.or_eq_true,decide_eq_true_eq] at hk
     rcases hk with rfl|rfl
     ·rcases hq with rfl|rfl
      ·exact hZK
      ·exact hZK3
     ·exact hZt.hi _ (by omega)).1
    have ho2: ∀q r,(q=K\/q=K3)->2001200<=r->hkeep [q,r] (iU Z)=iU Z:=fun q r hq hr=>(pI fun k hk=>by
     simp only[xN,Bool.or_eq_true,decide_eq_true_eq] at hk
     rcases hk with rfl|rfl
     ·rcases hq with rfl|rfl
      ·exact hZK
      ·exact hZK3
     ·exact hZt.hi _ (by omega)).2
    have ho3: ∀q,(q=K\/q=K3)->hsel [q] (iU Z)=[]:=fun q hq=>(pI fun k hk=>by
     simp only[xO,decide_eq_true_eq] at hk
     subst hk
     rcases hq with rfl|rfl
     ·exact hZK
     ·exact hZK3).1
    have ho4: ∀q,(q=K\/q=K3)->hkeep [q] (iU Z)=iU Z:=fun q hq=>(pI fun k hk=>by
     simp only[xO,decide_eq_true_eq] at hk
     subst hk
     rcases hq with rfl|rfl
     ·exact hZK
     ·exact hZK3).2
    have hz1: ∀X:aI,hdel (hdel (jA (iU Z++[(2001245,none),(2001246,none),(2001265,none),(2001266,none),(2001250,some X)])) 2001226) 2001225=Z++[(2001250,X)]:=fun X=>by
     have e:jA [(2001245,none),(2001246,none),(2001265,none),(2001266,none),(2001250,some X)]=[(2001250,X)]:=by simp [jA,hdel]
     rw[vX,e,gY (k:=2001226),gY]<;>rw[bV,hZt.hi _ (by omega)]<;>simp [hget]
    first
     |have aA8:=fun {q r nx:Nat} (h:q≠r)=>aSp hF hro p.cells c0 b (by omega) (by omega) m hc0l (q:=q) (r:=r) (nx:=nx) h (W:=W)
     |have aA8:=fun {q nx:Nat}=>aSq hF hro p.cells c0 b (by omega) (by omega) hc0l (q:=q) (nx:=nx) (W:=W)
    first
     |have aA9:=fun {q r nx:Nat} (h:q≠r)=>aSs hF hro p.dyns d0 b (by omega) (by omega) m hd0l (q:=q) (r:=r) (nx:=nx) h (W:=W)
     |have aA9:=fun {q nx:Nat}=>aSt hF hro p.dyns d0 b (by omega) (by omega) hd0l (q:=q) (nx:=nx) (W:=W)
    rw[hc1] at aA8
    rw[hd1] at aA9
    clear hK hK3 hB hZ hp htop hAe hCe hc0 hd0 htn
    simp only[aFw,Qb,cells2,eG]
    repeat' (first
   |simp -implicitDefEqProofs (maxSteps:=9999999) only[↓reduceIte,aA,aC,facts,Nat.reduceAdd,Nat.reduceEqDiff,Nat.reduceLT,Nat.reduceLeDiff,AV.cells,AV.one,Js,Qc,dM,dV,fV,kF,List.length_drop,Int.natCast_nonneg,mZ,Ji,eX,fH,aK,aN,uT,nS,nD,yR,List.append_assoc,wH,Qr,Qs,xO,xN,aT,bF,aU,aV,dA,aW, *]
   |((with_reducible refine dG 41 ?_);refine kQ hF hro oc (rfl) ?_)
   |((with_reducible refine dG 43 ?_);refine kQ hF hro od (rfl) ?_)
   |((with_reducible refine dG 54 ?_);refine kH [K,2001230] (st0:=⟨[(K,.cells (p.cells.flatMap fF)),(2001230,.cells (c0.flatMap fF))],2001250⟩) (by simp [nZ,qB,qA,xN,n1,n2,n3,n4,n5,n6,n7,n8,p1,p2,ho1,jA]) (aA8 (by omega)) (by simp) (by simp only[Nat.reduceLeDiff]) ?_)
   |((with_reducible refine dG 55 ?_);refine kH [K3,2001289] (st0:=⟨[(K3,.cells (p.dyns.flatMap fP)),(2001289,.cells (d0.flatMap fP))],2001309⟩) (by simp [nZ,qB,qA,xN,n1,n2,n3,n4,n5,n6,n7,n8,p1,p2,ho1,jA,Js,Qc]) (aA9 (by omega)) (by simp) (by simp only[Nat.reduceLeDiff]) ?_)
   |((with_reducible refine dG 54 ?_);refine kH [K] (st0:=⟨[(K,.cells (p.cells.flatMap fF))],2001250⟩) (by simp [nZ,qB,qA,xO,n1,n2,n3,n4,n5,n6,n7,n8,p1,p2,ho3,jA,Js,Qc]) aA8 (by simp) (by simp only[Nat.reduceLeDiff]) ?_)
   |((with_reducible refine dG 55 ?_);refine kH [K3] (st0:=⟨[(K3,.cells (p.dyns.flatMap fP))],2001309⟩) (by simp [nZ,qB,qA,xO,n1,n2,n3,n4,n5,n6,n7,n8,p1,p2,ho3,jA,Js,Qc]) aA9 (by simp) (by simp only[Nat.reduceLeDiff]) ?_)
   |((with_reducible refine aO ?_);refine bM (by decide+kernel) ?_)
   | ((with_reducible refine dP ?_ ?_);· (refine nN (fun n=>if n=K then 1500000 else if n=K3 then 1500001 else n) (wZ (by omega) (by omega)) ?_;simp only[List.map_cons,List.map_nil,LE.ren,n1,n2,n3,n4,n5,n6,n7,n8,p1,p2,Nat.reduceLT,Nat.reduceLeDiff,↓reduceIte];kernel_rfl)))
    have hz2: ∀X Y:aI,hdel (hdel (jA (iU Z++[(2001250,some X),(2001304,none),(2001305,none),(2001324,none),(2001325,none),(2001309,some Y)])) 2001285) 2001284=Z++[(2001250,X),(2001309,Y)]:=fun X Y=>by
     have e:jA [(2001250,some X),(2001304,none),(2001305,none),(2001324,none),(2001325,none),(2001309,some Y)]=[(2001250,X),(2001309,Y)]:=by simp [jA,hdel]
     rw[vX,e,gY (k:=2001285),gY]<;>rw[bV,hZt.hi _ (by omega)]<;>simp [hget]
    rw[hz2]
    have hK:=bK.down
    have hqi:qs[i]'(by omega)=p.ins c0 d0 b:=by
     simp only[<-hqs,List.getElem_mapIdx,bp.down,Eh,List.getD_eq_getElem?_getD,hcg,hdg,Option.getD_some]
    have fN: ∀j,j<2*i->dR 2000179 [(2001250,2000300+2*i,1),(2001309,2000300+2*i+1,1),(2000300,2000300,2*i)] (2000300+j)=some (2000300+j):=fun j hj=>by
     simp only[dR,jI]
     rw[if_neg (by omega),if_neg (by omega),if_neg (by omega),if_pos (by omega)];exact congrArg some (by omega)
    have f1:dR 2000179 [(2001250,2000300+2*i,1),(2001309,2000300+2*i+1,1),(2000300,2000300,2*i)] 2001250=some (2000300+2*i):=by simp [dR,jI]
    have f2:dR 2000179 [(2001250,2000300+2*i,1),(2001309,2000300+2*i+1,1),(2000300,2000300,2*i)] 2001309=some (2000300+2*i+1):=by simp [dR,jI]
    have fK: ∀k,k<2000179->dR 2000179 [(2001250,2000300+2*i,1),(2001309,2000300+2*i+1,1),(2000300,2000300,2*i)] k=some k:=fun k h=>if_pos h
    refine dN i () hlt rfl (by omega) (dR 2000179 [(2001250,2000300+2*i,1),(2001309,2000300+2*i+1,1),(2000300,2000300,2*i)]) (xQ 2000179 [(2001250,2000300+2*i,1),(2001309,2000300+2*i+1,1),(2000300,2000300,2*i)]) (dH.seg (by simp [oC];omega) (by omega) rfl) ?_ rfl ?_
    ·refine aG.eqR (t:=aFw s o b 2000153 (Gq 2000300 qs s.parts (i+1))++xG 2000300 qs s.parts (i+1)) ?_ (by simp only[aFw,Qb,cells2,eG,hm,List.cons_append,List.nil_append,Int.cast_ofNat_Int])
     refine aE1 (qs:=qs) (ps:=s.parts) ?_ (by omega) hnp hlt hql (fun k b' hk'=>?_) (fun k h=>fK k (by omega)) fN 2001250 2001309 f1 f2 ?_ ?_
     ·refine aG.cons 2000024 rfl rfl (by rw[hm];rfl) (aG.cons 20 rfl rfl ?_ (aG.cons 2000153 rfl rfl (nT _) (aG.cons 9 rfl rfl rfl (aG.cons 3 rfl rfl rfl (aG.cons 2 rfl rfl rfl (aG.cons 1 rfl rfl rfl (aG.cons 0 rfl rfl rfl aG.nil)))))))
      rw[<-bB.down]
      refine(congrArg (List.map (AV.ren _)) (aId hAl)).trans ?_
      rw[btn.down,hqi,bA.down,bC.down,List.map_append,mP 2000300 2000300 _ (fun j hj=>fN j (by rw[List.length_take] at hj;omega))]
      simp only[List.map_cons,AV.ren,f1,f2]
      rw[mP (22+2*i+2) (22+2*i+2) _ (fun j hj=>fK _ (by rw[List.length_drop] at hj;omega))]
      rfl
     ·have:=aCk (by omega) hnp hlt hk'
      rw[bZ.down] at hk'
      dsimp only
      repeat rw[bD (by omega)]
      rw[bV,hk']
     ·rw[hqi]
      dsimp only
      repeat rw[bD (by omega)]
      rw[bV,hZt.hi _ (by omega)];simp [hget,Pa.ins]
     ·rw[hqi]
      dsimp only
      repeat rw[bD (by omega)]
      rw[bV,hZt.hi _ (by omega)];simp [hget,Pa.ins]
    ·simp [Fr.renF,kE,fE,tC,Nat.beq,AV.ren,dR,hwr]
  · have he:i=s.parts.length:=by omega
    subst he
    rw[aMk hql,aIc hql]
    have hT:iI 2000300 2001200 (hC (dW 2000300 (iO qs))):=(iI.fam (m:=2001200) (by rw[jD];omega))
    have hqe:(iL s o b).parts=qs:=hqs
    obtain⟨T2,hT2⟩: ∃T,hC (dW 2000300 (iO qs))=T:=⟨_,rfl⟩
    rw[hT2] at hT ⊢
    have bT2:PLift (hC (dW 2000300 (iO qs))=T2):=⟨hT2⟩
    clear hT2
    simp only[aFw,Qb,cells2,eG]
    repeat' (first
   |simp -implicitDefEqProofs (maxSteps:=9999999) only[↓reduceIte,aA,aC,facts,Nat.reduceAdd,Nat.reduceEqDiff,Nat.reduceLT,Nat.reduceLeDiff,AV.cells,AV.one,fV,List.length_drop,Int.natCast_nonneg,aT,bF,aU,aV,dA,aW, *]
   | ((with_reducible refine aF (fun _=>?_) (fun _=>?_))<;>try omega))
    rw[show(Hq o b).av=AV.agg (.int .i64 (if(3:Int)=0 then o.kind else 3)::[.int .i64 0,.int .i64 (b:Nat),.int .i64 0,.int .i64 0,.int .i64 (o.bars.length:Nat),.sl 9 [] .none,.sl 14 [] .none,.sl 1 [] .none,.sl 1 [] .none,.int .i64 0,.int .i64 0,.str ⟨#[]⟩]) from rfl]
    refine⟨0,rfl,.inr ⟨rfl,.str s.title,.msl 2000153 0 (iL s o b).bars.length 14,.msl 20 0 (iL s o b).parts.length 5,3,.int .i64 0,.int .i64 (b:Nat),.int .i64 0,.int .i64 0,.int .i64 (o.bars.length:Nat),.sl 9 [] .full,.sl 14 [] .full,.sl 1 [] .full,.sl 1 [] .full,.int .i64 0,.int .i64 0,.str ⟨#[]⟩,(20,.cells (cZ 2000300 (iL s o b).parts))::(2000153,.cells ((iL s o b).bars.flatMap Ba.cells))::hC (dW 2000300 (iO (iL s o b).parts)),⟨by simp only[Nat.reduceLeDiff],?_⟩,
     aIa (s':=iL s o b) (by rw[hqe];omega) (by omega) rfl (fun _=>rfl) hts (by simp [AV.one])⟩⟩
    rw[hqe,bT2.down,hql]
    simp only[St.hp,eU,eG,aH.cells13,hk,HB,hm,iL,List.cons_append,List.nil_append]
    (refine aB (by simp [hget]) (aB (by simp [hget]) (aB (by simp [hget]) (aB (by simp [hget]) (aB (by simp [hget]) (aB (by simp [hget]) (aB (by simp [hget]) (aB (by simp [hget]) (fun k b h=>?_))))))));have hmm:=hT.mem h;(repeat(first|rw[bD (by omega)]|rw[rZ (by omega)]));exact h)
theorem aK3 (s:Sc) (o:aH) (hk:o.kind=2) (hs:s.bars.length<=1000000) (h1: ¬(0<=o.bar/\o.bar< ((s.bars.length:Nat):Int)+1)) {F:Fence} (hF:Free F) (hro:F.round=none) {W:World}:aP F Tryz.prog gl W 19 [.ptr 2000024 0] (MK s o (fun v=>v=errR 90)) ⟨iD pU s o,2000068⟩:=by
 rw[iD,eU,eG]
 generalize lU pU s=T
 have hw:IntKind.i64.wrap (((s.bars.length:Nat):Int)+1)=((s.bars.length:Nat):Int)+1:=wrap_in (by omega)
 (refine aP.introZ hF hro 2 mix names (fn:=Tryz.f19) Tryz.func19 rfl ?_;simp only[Tryz.ntmps19,Tryz.results19,aJ,Nat.reduceAdd,Nat.reduceSub])
 repeat' (first
  |simp -implicitDefEqProofs (maxSteps:=9999999) only[↓reduceIte,aA,aC,facts,Nat.reduceAdd,Nat.reduceEqDiff,Nat.reduceLeDiff,Option.map_none,aH.cells13, *]
  |((with_reducible refine aS 46 ?_);refine PC.useZ hF (sV _ _ h1) (rfl) fun v hv=>?_;subst hv))
 (refine jK (by decide) (by simp only[Nat.reduceLeDiff]) rfl ?_;simp only[eU,eG,aH.cells13,hk];exact aB (by simp [hget]) (aB (by simp [hget]) (aB (by simp [hget]) (aB (by simp [hget]) (aB (by simp [hget]) fun k b h=>by cases h)))))
theorem aK4 (s:Sc) (o:aH) (hk:o.kind=2) (hs:s.bars.length<=1000000) (h1:0<=o.bar/\o.bar< ((s.bars.length:Nat):Int)+1) (hcl:o.cells.length<=1000000) (hdl:o.dyns.length<=1000000) (h2: ¬(mJ s.parts.length o.bars.length o.cells=true/\mJ s.parts.length o.bars.length o.dyns=true)) {F:Fence} (hF:Free F) (hro:F.round=none) {W:World}:aP F Tryz.prog gl W 19 [.ptr 2000024 0] (MK s o (fun v=>v=errR 90)) ⟨iD pU s o,2000068⟩:=by
 have hvr:=Zg s.title (.msl 21 0 s.bars.length 14) (.int .i64 2) (.int .i64 o.part) (.int .i64 o.bar) (.int .i64 o.voice) (.int .i64 o.at_) (.int .i64 o.count) (.sl 9 (o.events.map Ev.av) .none) s.parts.length o.cells o.bars (.sl 1 (o.cells.map dM) .none:: .sl 1 (o.dyns.map dV) .none:: .int .i64 o.steps:: .int .i64 o.halves:: .str o.text::eG) hcl (fun f hf=>by simp only[eG,List.map_cons,List.map_nil,AV.ren,hf 20 (by decide),hf 21 (by decide)])
 have hdr:=Zh s.title (.msl 21 0 s.bars.length 14) (.int .i64 2) (.int .i64 o.part) (.int .i64 o.bar) (.int .i64 o.voice) (.int .i64 o.at_) (.int .i64 o.count) (.sl 9 (o.events.map Ev.av) .none) s.parts.length o.dyns o.bars (.sl 1 (o.cells.map dM) .none:: .sl 1 (o.dyns.map dV) .none:: .int .i64 o.steps:: .int .i64 o.halves:: .str o.text::eG) hdl (fun f hf=>by simp only[eG,List.map_cons,List.map_nil,AV.ren,hf 20 (by decide),hf 21 (by decide)])
 simp only[eG] at hvr hdr
 rw[iD,eU,eG]
 generalize lU pU s=T
 have hw:IntKind.i64.wrap (((s.bars.length:Nat):Int)+1)=((s.bars.length:Nat):Int)+1:=wrap_in (by omega)
 by_cases h3:mJ s.parts.length o.bars.length o.cells=true
 ·have h4:mJ s.parts.length o.bars.length o.dyns=false:=by
   cases h:mJ s.parts.length o.bars.length o.dyns with
   |false=>rfl
   |true=>exact absurd ⟨h3,h⟩ h2
  rw[h3] at hvr
  rw[h4] at hdr
  clear h2 h3 h4
  (refine aP.introZ hF hro 2 mix names (fn:=Tryz.f19) Tryz.func19 rfl ?_;simp only[Tryz.ntmps19,Tryz.results19,aJ,Nat.reduceAdd,Nat.reduceSub])
  repeat' (first
  |simp -implicitDefEqProofs (maxSteps:=9999999) only[↓reduceIte,aA,aC,facts,Nat.reduceAdd,Nat.reduceEqDiff,Nat.reduceLeDiff,aH.cells13, *]
  |((with_reducible refine aS 46 ?_);refine PC.useZ hF (iF _ _ h1) (rfl) fun v hv=>?_;subst hv)
  |((with_reducible refine aS 51 ?_);refine nG (Rd.call hF hvr (Nj rfl) ?_))
  |((with_reducible refine aS 52 ?_);refine nG (Rd.call hF hdr (Nj rfl) ?_)))
  (refine jK (by decide) (by simp only[Nat.reduceLeDiff]) rfl ?_;simp only[eU,eG,aH.cells13,hk];exact aB (by simp [hget]) (aB (by simp [hget]) (aB (by simp [hget]) (aB (by simp [hget]) (aB (by simp [hget]) fun k b h=>by cases h)))))
 ·have h4:mJ s.parts.length o.bars.length o.cells=false:=by simpa using h3
  rw[h4] at hvr
  clear h2 h3 h4 hdr
  (refine aP.introZ hF hro 2 mix names (fn:=Tryz.f19) Tryz.func19 rfl ?_;simp only[Tryz.ntmps19,Tryz.results19,aJ,Nat.reduceAdd,Nat.reduceSub])
  repeat' (first
  |simp -implicitDefEqProofs (maxSteps:=9999999) only[↓reduceIte,aA,aC,facts,Nat.reduceAdd,Nat.reduceEqDiff,Nat.reduceLeDiff,Option.map_none,aH.cells13, *]
  |((with_reducible refine aS 46 ?_);refine PC.useZ hF (iF _ _ h1) (rfl) fun v hv=>?_;subst hv)
  |((with_reducible refine aS 51 ?_);refine nG (Rd.call hF hvr (Nj rfl) ?_)))
  (refine jK (by decide) (by simp only[Nat.reduceLeDiff]) rfl ?_;simp only[eU,eG,aH.cells13,hk];exact aB (by simp [hget]) (aB (by simp [hget]) (aB (by simp [hget]) (aB (by simp [hget]) (aB (by simp [hget]) fun k b h=>by cases h)))))
theorem aK5 (s:Sc) (o:aH) (hk:o.kind=3) (hs:s.bars.length<=1000000) (hi: -9223372036854775808<=o.bar/\o.bar<=9223372036854775807) (h1: ¬(0<=o.bar/\0<=o.count/\o.bar<=((s.bars.length:Nat):Int)/\o.count<=((s.bars.length:Nat):Int) - o.bar)) {F:Fence} (hF:Free F) (hro:F.round=none) {W:World}:aP F Tryz.prog gl W 20 [.ptr 2000024 0] (MK s o (fun v=>v=errR 90)) ⟨iD pU s o,2000068⟩:=by
 rw[iD,eU,eG]
 generalize lU pU s=T
 (refine aP.introZ hF hro 2 mix names (fn:=Tryz.f20) Tryz.func20 rfl ?_;simp only[Tryz.ntmps20,Tryz.results20,aJ,Nat.reduceAdd,Nat.reduceSub])
 repeat' (first
  |simp -implicitDefEqProofs (maxSteps:=9999999) only[↓reduceIte,aA,aC,facts,Nat.reduceAdd,Nat.reduceEqDiff,Nat.reduceLeDiff,aH.cells13,fV,eF,bF,aU,aV,aW, *]
  |((with_reducible refine aO ?_);refine bM (by decide+kernel) ?_)
  |((with_reducible refine dP ?_ ?_);· decide+kernel)
  |((with_reducible refine aS 47 ?_);refine PC.useZ hF (aOy _ _ _ hi (by omega) h1) (rfl) fun v hv=>?_;subst hv))
 (refine jK (by decide) (by simp only[Nat.reduceLeDiff]) rfl ?_;simp only[eU,eG,aH.cells13,hk];exact aB (by simp [hget]) (aB (by simp [hget]) (aB (by simp [hget]) (aB (by simp [hget]) (aB (by simp [hget]) fun k b h=>by cases h)))))
end Go.Proofs.Pv
