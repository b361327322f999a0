/-
  Layer 9's edits: bars that are taken out.
  Conditions: a right score; bars that there are; short lists.
-/
import Derived.Test.YtoaofjhadfihjaaGreatDoorC11x
import Derived.Test.YtoaofjhadfihjaaGreatDoorC10c
set_option linter.unusedVariables false
set_option linter.unusedSimpArgs false
set_option maxRecDepth 100000
set_option maxHeartbeats 16000000
namespace Go.Proofs.Pv
open Go Go.Proofs
theorem cutZ {b c:Nat} (h:c=0) {α:Type} {l:List α}:List.take c (List.drop b l)=[]:=by rw[h];rfl
theorem Om {q:Nat}: ∀ {Z:List (Nat×aI)},hget Z q=none->hk0 q Z=Z
 |[],_=>rfl
 | (k,b)::Z,h=>by
  simp only[hget] at h
  split at h
  ·cases h
  ·rename_i e
   rw[hk0,if_neg (fun e2=>e e2.symm),Om h]
theorem Vl {q:Nat}: ∀ {a b:List (Nat×aI)},hk0 q (a++b)=hk0 q a++hk0 q b
 |[],b=>rfl
 |(k,x)::a,b=>by
  simp only[List.cons_append,hk0]
  split
  ·exact Vl
  ·rw[Vl];rfl
theorem rdE1 {h:DH} {q:Nat} {b:aI} (hd:bY h q=some b): ∀k b',hget [(q,b)] k=some b'->k∈[q]/\bY h k=some b':=by
 intro k b' hk
 simp only[hget] at hk
 split at hk
 ·rename_i e;subst e;exact⟨by simp,by rw[hd];exact hk⟩
 ·cases hk
theorem aG.consT {f:Nat->Option Nat} {h t:List (Nat×aI)} {k:Nat} (K:Nat) (hk:hget h K=some .tok) (hf:f K=some k) (ht:aG f h t):aG f h ((k,.tok)::t):=by
 intro k' b' h'
 simp only[hget] at h'
 split at h'
 ·rename_i e
  simp only[Option.some.injEq] at h'
  subst e;subst h'
  exact⟨K,.tok,hf,hk,rfl⟩
 ·exact ht k' b' h'
def Gp (i:Nat):List (Nat×Nat×Nat):=[(2001264,2000300+2*i,1),(2001277,2000300+2*i+1,1),(2000300,2000300,2*i),(2001228,2001100,1),(2001250,2001101,1)]
def jM (b c:Nat) {α:Type} (l:List α):List α:=(l.drop b).take c
def bkA (k:Nat) (l:List AV):Nat->AV
 |0=> .sl 1 [] .full
 |_+1=> .sl 1 l (.tok k)
def tkH (k k2:Nat):Nat->List (Nat×aI)
 |0=>[]
 |_+1=>[(k,.tok),(k2,.tok)]
theorem aH9 {k i:Nat} {l:List AV} (h:0<i):bkA k l i= .sl 1 l (.tok k):=by
 obtain⟨n,rfl⟩: ∃n,i=n+1:=⟨i - 1,by omega⟩
 rfl
def cells3 (o:aH) (b c:Nat):List AV:=[.int .i64 3,.int .i64 o.part,.int .i64 (b:Nat),.int .i64 o.voice,.int .i64 o.at_,.int .i64 (c:Nat),.sl 9 (o.events.map Ev.av) .none,.sl 14 (o.bars.map Ba.av) .none,.sl 1 (o.cells.map dM) .none,.sl 1 (o.dyns.map dV) .none,.int .i64 o.steps,.int .i64 o.halves,.str o.text]
def aD8 (s:Sc) (o:aH) (b c kq:Nat) (top:List AV) (bc bd:AV):List (Nat×aI):=(2000024,.cells (.str s.title:: .msl kq 0 (gJ s.bars b c).length 14:: .msl 20 0 s.parts.length 5::(cells3 o b c++[.int .i64 2,.int .i64 0,.int .i64 (b:Nat),.int .i64 0,.int .i64 0,.int .i64 0,.sl 9 [] .full,.sl 14 (((s.bars.drop b).take c).map Ba.av) .none,bc,bd,.int .i64 0,.int .i64 0,.str ⟨#[]⟩])))::(20,.cells top)::(kq,.cells ((gJ s.bars b c).flatMap Ba.cells))::Qb s (cells3 o b c)
def Sj (b c:Nat) (ps:List Pa) (i:Nat):List AV:=(ps.take i).map fun p=>dM (jM b c p.cells)
def Sl (b c:Nat) (ps:List Pa) (i:Nat):List AV:=(ps.take i).map fun p=>dV (jM b c p.dyns)
def Zd (s:Sc) (o:aH) (b c:Nat) (qs:List Pa) (i:Nat):St:=⟨(aD8 s o b c 2000118 (Gq 2000300 qs s.parts i) (bkA 2001100 (Sj b c s.parts i) i) (bkA 2001101 (Sl b c s.parts i) i)++tkH 2001100 2001101 i)++xG 2000300 qs s.parts i,2001200⟩
def jS (s:Sc) (b c:Nat):Sc:=⟨s.title,gJ s.bars b c,s.parts.mapIdx fun _ p=>p.del b c⟩
def lJ (s:Sc) (b c:Nat):aH:=⟨2,0,b,0,0,0,[],jM b c s.bars,s.parts.map fun p=>jM b c p.cells,s.parts.map fun p=>jM b c p.dyns,0,0,⟨#[]⟩⟩
theorem aMi (s:Sc) (o:aH) (hk:o.kind=3) (hs:s.small) (hg:s.goodU pU) (hcd: ∀p∈s.parts,p.cells.length=s.bars.length/\p.dyns.length=s.bars.length) (b c:Nat) (hb:b+c<=s.bars.length) (HB:o.bar=(b:Nat)) (HC:o.count=(c:Nat)) (hbl:s.bars.length<=400000) (hts:(jS s b c).small) {F:Fence} (hF:Free F) (hro:F.round=none) {W:World}:aP F Tryz.prog gl W 20 [.ptr 2000024 0] (MK s o (fun v=>v=uU (jS s b c) (lJ s b c).av)) ⟨iD pU s o,2000068⟩:=by
  have hT:=TC_t hg.hi
  have hnp:=hg.hi
  have hpl:(cZ 22 s.parts).length=s.parts.length*5:=kW _ _
  have hw:IntKind.i64.wrap (((b:Nat):Int)+((c:Nat):Int))=((b+c:Nat):Int):=by rw[wrap_in (by omega)];rfl
  have k1:((b:Nat):Int)<=((b+c:Nat):Int):=by omega
  have k2:((b+c:Nat):Int)<=((s.bars.length:Nat):Int):=by omega
  have hsub:b+c - b=c:=by omega
  have k3:(0:Int)<=((b:Nat):Int):=by omega
  have H:(((b:Nat):Int)< ((s.bars.length:Nat):Int)/\True/\True)\/(¬((b:Nat):Int)< ((s.bars.length:Nat):Int)/\((((b:Nat):Int)=((b+c:Nat):Int))=True)/\c=0):=by
    rcases Nat.lt_or_ge b s.bars.length with h|h
    · exact .inl ⟨by omega,trivial,trivial⟩
    · exact .inr ⟨by omega,by simp only[eq_iff_iff,iff_true];omega,by omega⟩
  rcases H with⟨kl,ke,hc0⟩|⟨kl,ke,hc0⟩
  all_goals
   have bc0:=PLift.up hc0
   clear hc0
   rw[iD,eU,eG]
   rw[aEz]
   obtain⟨T,hTe⟩: ∃T,TC s.parts=T:=⟨_,rfl⟩
   rw[hTe] at hT ⊢
   have hdT: ∀n,1000000<=n->hdel T n=T:=fun n h=>gY (hT.hi n (by omega))
   have hkT:hk0 21 T=T:=Om (hT.lo _ (by omega))
   have bT:PLift (TC s.parts=T):=⟨hTe⟩
   clear hTe
   (refine aP.introZ hF hro 3 mix names (fn:=Tryz.f20) Tryz.func20 rfl ?_;simp only[Tryz.ntmps20,Tryz.results20,aJ,Nat.reduceAdd,Nat.reduceSub])
   repeat' (first
    |simp -implicitDefEqProofs (maxSteps:=9999999) only[↓reduceIte,aA,aC,facts,Nat.reduceAdd,Nat.reduceEqDiff,Nat.reduceLT,Nat.reduceLeDiff,List.flatMap_cons,List.flatMap_nil,AV.cells,Option.map_none,AV.one,bnd,aH.cells13,HB,HC,fV,eF,List.length_drop,Int.natCast_nonneg,nD,List.append_assoc,aF8,aJa,Vl,aT,bF,aU,aV,dA,aW, *]
    |((with_reducible refine aO ?_);refine bM (by decide+kernel) ?_)
    |((with_reducible refine dP ?_ ?_);· decide+kernel)
    |((with_reducible refine aS 47 ?_);refine PC.useZ hF (Tq _ _ _ (by omega) (by omega)) (rfl) fun v hv=>?_;subst hv)
    |((with_reducible refine aS 56 ?_);refine nG (Rd.call hF (aLr s.bars b c (by omega) (by omega) 21 (by decide)) (Nj rfl) ?_))
    |((with_reducible refine aS 56 ?_);refine nG (Rd.call hF (aGt []) (fun k b h=>by simp [hget] at h) ?_))
    |((with_reducible refine aS 57 ?_);refine Um (q:=21) rfl (aSo hF hro s.bars b c (by omega) (by omega)) ?_))
   obtain⟨qs,hqs⟩: ∃qs,(s.parts.mapIdx fun _ p=>p.del b c)=qs:=⟨_,rfl⟩
   have hql:qs.length=s.parts.length:=by rw[<-hqs,List.length_mapIdx]
   have f0: ∀k,k<2000130->bI 2000130 [] k=some k:=fun k h=>if_pos h
   refine jU (fE 142 [0,3,4,64,65]) 2001200 s.parts.length (fun i (_:Unit)=>⟨[.ptr 2000024 0,.ud,.ud,.int .i64 (b:Nat),.int .i64 (c:Nat),.ud,.ud,.ud,.ud,.ud,.ud,.ud,.ud,.ud,.ud,.ud,.ud,.ud,.ud,.ud,.ud,.ud,.ud,.ud,.ud,.ud,.ud,.ud,.ud,.ud,.ud,.ud,.ud,.ud,.ud,.ud,.ud,.ud,.ud,.ud,.ud,.ud,.ud,.ud,.ud,.ud,.ud,.ud,.ud,.ud,.ud,.ud,.ud,.ud,.ud,.ud,.ud,.ud,.ud,.ud,.ud,.ud,.ud,.ud,.int .i64 (s.parts.length:Nat),.int .i64 (i:Nat),.ud,.ud,.ud,.ud,.ud,.ud,.ud,.ud,.ud,.ud,.ud,.ud,.ud,.ud,.ud,.ud,.ud,.ud,.ud,.ud,.ud,.ud,.ud,.ud,.ud,.ud,.ud,.ud,.ud,.ud,.ud,.ud,.ud,.ud,.ud,.ud,.ud,.ud,.ud,.ud,.ud,.ud,.ud,.ud,.ud,.ud,.ud,.ud,.ud,.ud,.ud,.ud,.ud,.ud,.ud,.ud,.ud,.ud,.ud,.ud,.ud,.ud,.ud,.ud,.ud,.ud,.ud,.ud,.ud,.ud,.ud,.ud,.ud,.ud,.ud,.ud],[]⟩) (fun i _=>Zd s o b c qs i) (fun i _=>i<401) ⟨(),by omega,bI 2000130 [],gK 2000130 [],dH.of_fit rfl rfl rfl,?_,rfl,rfl⟩ ?_
   · rw[Zd,aMj,aIb]
     refine aG.app (aG.app (aG.cons 2000024 rfl rfl (by first|rfl|(rw[cutZ bc0.down];rfl)) (aG.cons 20 rfl rfl (mP 22 22 s.parts fun q hq=>f0 _ (by omega)) (aG.cons 2000118 ?_ rfl (nT _) (aG.cons 9 rfl rfl rfl (aG.cons 3 rfl rfl rfl (aG.cons 2 rfl rfl rfl (aG.cons 1 rfl rfl rfl (aG.cons 0 rfl rfl rfl aG.nil)))))))) aG.nil) (aG.famM (Bz _) (fun j hj=>f0 _ (by rw[jD] at hj;omega)) fun j hj=>?_)
     · repeat rw[bD (by omega)]
       rw[bV,hT.hi _ (by omega)];simp [hget]
     · have hj2:=hj
       rw[jD] at hj2
       repeat rw[bD (by omega)]
       rw[bV,<-bT.down,TC,iM hj]
   clear hdT hkT hT bT f0
   rintro i x hi hi2
   rcases Nat.lt_or_ge i s.parts.length with hlt|hge
   · obtain ⟨A,C,hAl,hAe,hCe,htop⟩:=aE0 (N:=2000300) (qs:=qs) hlt hql
     have htn:=aCj (N:=2000300) (qs:=qs) hlt hql
     have hZt:=aBe (N:=2000300) (qs:=qs) (by omega) hnp hlt
     have hZK:=Iz (N:=2000300) (qs:=qs) (by omega) hnp hlt (k:=22+2*i) (by omega)
     have hZK3:=Iz (N:=2000300) (qs:=qs) (by omega) hnp hlt (k:=22+2*i+1) (by omega)
     have hCl:C.length=(s.parts.length - (i+1))*5:=by rw[hCe,kW,List.length_drop]
     have htc:Sj b c s.parts (i+1)=Sj b c s.parts i++[dM (jM b c s.parts[i].cells)]:=by simp only[Sj];rw[take_snoc hlt,List.map_append];rfl
     have htd:Sl b c s.parts (i+1)=Sl b c s.parts i++[dV (jM b c s.parts[i].dyns)]:=by simp only[Sl];rw[take_snoc hlt,List.map_append];rfl
     obtain⟨hc1,hd1⟩:=hcd _ (List.getElem_mem hlt)
     rw[Zd,aCi hlt,htop,hc1,hd1]
     obtain⟨p,hp⟩: ∃p,s.parts[i]=p:=⟨_,rfl⟩
     rw[hp] at hc1 hd1 htc htd ⊢
     obtain⟨Z,hZ⟩: ∃Z,wJ 2000300 qs s.parts i=Z:=⟨_,rfl⟩
     rw[hZ] at hZt hZK hZK3 ⊢
     obtain⟨K,hK⟩: ∃K,22+2*i=K:=⟨_,rfl⟩
     rw[hK] at hZK hZK3 ⊢
     obtain⟨K3,hK3⟩: ∃K3,K+1=K3:=⟨_,rfl⟩
     rw[hK3] at hZK3 ⊢
     obtain⟨B,hB⟩: ∃B,A++(.str p.name:: .int .i64 p.clef:: .int .i64 p.channel:: .msl K 0 s.bars.length 1:: .msl K3 0 s.bars.length 1::C)=B:=⟨_,rfl⟩
     rw[hB]
     have hBl:B.length=s.parts.length*5:=by rw[<-hB];simp only[List.length_append,List.length_cons,hAl,hCl];omega
     have r1:(List.drop (i*5+3) B).head?=some (.msl K 0 s.bars.length 1):=by rw[<-hB,<-hAl,List.drop_length_add_append];rfl
     have r2:(List.drop (i*5+4) B).head?=some (.msl K3 0 s.bars.length 1):=by rw[<-hB,<-hAl,List.drop_length_add_append];rfl
     have hx1: ∀x,List.drop (i*5+4) (List.take (i*5+3) B++x::List.drop (i*5+4) B)=List.drop (i*5+4) B:=fun x=>by
       have:(List.take (i*5+3) B).length=i*5+3:=by rw[List.length_take];omega
       conv=>lhs;rw[show i*5+4=(List.take (i*5+3) B).length+1 by omega,List.drop_length_add_append]
       simp only[List.drop_succ_cons,List.drop_zero];congr 1;omega
     have hx2: ∀x,(List.take (i*5+3) B++x::List.drop (i*5+4) B).length=s.parts.length*5:=fun x=>by
       simp only[List.length_append,List.length_take,List.length_cons,List.length_drop];omega
     have p1: ∀n,n<22->(n=K)=False:=fun n h=>eq_false (by omega)
     have p2: ∀n,1000<=n->(n=K)=False:=fun n h=>eq_false (by omega)
     have n1: ∀n,n<22->(K=n)=False:=fun n h=>eq_false (by omega)
     have n2: ∀n,1000<=n->(K=n)=False:=fun n h=>eq_false (by omega)
     have n3: ∀n,n<22->(K3=n)=False:=fun n h=>eq_false (by omega)
     have n4: ∀n,1000<=n->(K3=n)=False:=fun n h=>eq_false (by omega)
     have n5:(K=K3)=False:=eq_false (by omega)
     have n6:(K3=K)=False:=eq_false (by omega)
     have n7: ∀n,n<22->(n=K3)=False:=fun n h=>eq_false (by omega)
     have n8: ∀n,1000<=n->(n=K3)=False:=fun n h=>eq_false (by omega)
     have hKb:K<=1000:=by omega
     have hK3b:K3<=1000:=by omega
     have hkZ:hk0 K Z=Z:=Om hZK
     have hkZ3:hk0 K3 Z=Z:=Om hZK3
     have q1:(((i:Nat)):Int)< ((s.parts.length:Nat):Int):=by omega
     have q3:i*5<=s.parts.length*5:=by omega
     have q4:i*5+3<=s.parts.length*5:=by omega
     have q5:i*5+4<=s.parts.length*5:=by omega
     have q5':i*5+5<=s.parts.length*5:=by omega
     have q6:1<=s.parts.length*5 - (i*5+3):=by omega
     have q7:1<=s.parts.length*5 - (i*5+4):=by omega
     have hwr:IntKind.i64.wrap (((i:Nat):Int)+1)=((i:Nat):Int)+1:=wrap_in (by omega)
     have bK:PLift (22+2*i=K):=⟨hK⟩
     have bK3:PLift (K+1=K3):=⟨hK3⟩
     have bB:PLift (A++(.str p.name:: .int .i64 p.clef:: .int .i64 p.channel:: .msl K 0 s.bars.length 1:: .msl K3 0 s.bars.length 1::C)=B):=⟨hB⟩
     have bZ:PLift (wJ 2000300 qs s.parts i=Z):=⟨hZ⟩
     have bp:PLift (s.parts[i]=p):=⟨hp⟩
     have bA:PLift (A=cZ 2000300 (qs.take i)):=⟨hAe⟩
     have bC:PLift (C=cZ (22+2*i+2) (s.parts.drop (i+1))):=⟨hCe⟩
     have btn:=PLift.up htn
     have btc:=PLift.up htc
     have btd:=PLift.up htd
     have hdZ: ∀n,2001100<=n->hdel Z n=Z:=fun n h=>gY (hZt.hi n (by omega))
     have hcl:=fun {nx:Nat}=>aSr hF hro p.cells b c (by omega) (by omega) (q:=K) (nx:=nx) (W:=W)
     have hdl:=fun {nx:Nat}=>aSu hF hro p.dyns b c (by omega) (by omega) (q:=K3) (nx:=nx) (W:=W)
     have hcc:=aLs p.cells b c (by omega) (by omega) K (by omega)
     have hdd:=aLt p.dyns b c (by omega) (by omega) K3 (by omega)
     rw[hc1] at hcl
     rw[hd1] at hdl
     have hbk: ∀l m,(bkA 2001100 l i= .sl 1 [] .full/\bkA 2001101 m i= .sl 1 [] .full/\tkH 2001100 2001101 i=[]/\i=0)\/(bkA 2001100 l i= .sl 1 l (.tok 2001100)/\bkA 2001101 m i= .sl 1 m (.tok 2001101)/\tkH 2001100 2001101 i=[(2001100,.tok),(2001101,.tok)]/\0<i):=fun l m=>by
       cases i with
       |zero=>exact .inl ⟨rfl,rfl,rfl,rfl⟩
       |succ n=>exact .inr ⟨rfl,rfl,rfl,Nat.succ_pos n⟩
     obtain⟨CC,hCC⟩: ∃l,Sj b c s.parts i=l:=⟨_,rfl⟩
     obtain⟨DD,hDD⟩: ∃l,Sl b c s.parts i=l:=⟨_,rfl⟩
     rw[hCC,hDD]
     have bCC:=PLift.up hCC
     have bDD:=PLift.up hDD
     have hCb:(CC.length+1)*24<=140737488355328:=by rw[<-hCC,Sj,List.length_map,List.length_take];omega
     have hDb:(DD.length+1)*24<=140737488355328:=by rw[<-hDD,Sl,List.length_map,List.length_take];omega
     have g4:i=0->CC=[]/\DD=[]:=fun h=>by rw[<-hCC,<-hDD,h];exact⟨rfl,rfl⟩
     have bk:=PLift.up (hbk CC DD)
     have bg4:=PLift.up g4
     clear g4 hbk
     clear hK hK3 hB hZ hp htop hAe hCe htn htc htd hCC hDD
     rcases bk.down with⟨g1,g2,g3,g5⟩|⟨g1,g2,g3,g5⟩
     all_goals
      rw[g1,g2,g3]
      have bg5:=PLift.up g5
      clear g1 g2 g3 g5
      simp only[aD8,Qb,cells3,eG,List.nil_append,List.cons_append]
      repeat' (first
    |simp -implicitDefEqProofs (maxSteps:=9999999) only[↓reduceIte,aA,aC,facts,Nat.reduceAdd,Nat.reduceEqDiff,Nat.reduceLT,Nat.reduceLeDiff,List.flatMap_cons,List.flatMap_nil,AV.cells,Option.map_none,AV.one,bnd,fV,eF,kF,List.length_drop,Int.natCast_nonneg,nD,List.append_assoc,aF8,aJa,Vl,aT,bF,aU,aV,dA,aW, *]
    |((with_reducible refine dG 58 ?_);refine gV [K] _ hcc (rdE1 (by simp [bY,n1,n2,n5,n6,p1,p2])) ?_)
    |((with_reducible refine dG 59 ?_);refine gV [K3] _ hdd (rdE1 (by simp [bY,n3,n4,n5,n6,n7,n8])) ?_)
    |((with_reducible refine dG 58 ?_);refine gV [] _ (aGu []) (qC (hl:=[]) trivial) ?_)
    |((with_reducible refine dG 59 ?_);refine gV [] _ (aGv []) (qC (hl:=[]) trivial) ?_)
    |((with_reducible refine aO ?_);refine bM (by decide+kernel) ?_)
    |((with_reducible refine dP ?_ ?_);· decide+kernel)
    |((with_reducible refine dP ?_ ?_);· (refine nN (fun n=>if n=K then 1500000 else if n=K3 then 1500001 else n) (wZ (by omega) (by omega)) ?_;simp only[List.map_cons,List.map_nil,LE.ren,n1,n2,n3,n4,n5,n6,n7,n8,p1,p2,Nat.reduceLT,Nat.reduceLeDiff,↓reduceIte];kernel_rfl))
    |((with_reducible refine aS 60 ?_);refine Um (q:=K) (by simp [hget,n1,n2,n5,n6]) hcl ?_)
    | ((with_reducible refine aS 61 ?_);refine Um (q:=K3) (by simp [hget,n3,n4,n5,n6]) hdl ?_))
      have hK:=bK.down
      have hqi:qs[i]'(by omega)=p.del b c:=by simp only[<-hqs,List.getElem_mapIdx,bp.down]
      have fN: ∀j,j<2*i->dR 2000130 (Gp i) (2000300+j)=some (2000300+j):=fun j hj=>by
        simp only[Gp,dR,jI]
        rw[if_neg (by omega),if_neg (by omega),if_neg (by omega),if_pos (by omega)];exact congrArg some (by omega)
      have f1:dR 2000130 (Gp i) 2001264=some (2000300+2*i):=by simp [Gp,dR,jI]
      have f2:dR 2000130 (Gp i) 2001277=some (2000300+2*i+1):=by simp [Gp,dR,jI]
      have f3:dR 2000130 (Gp i) 2001228=some 2001100:=by simp only[Gp,dR,jI];rw[if_neg (by omega),if_neg (by omega),if_neg (by omega),if_neg (by omega),if_pos (by omega)]
      have f4:dR 2000130 (Gp i) 2001250=some 2001101:=by simp only[Gp,dR,jI];rw[if_neg (by omega),if_neg (by omega),if_neg (by omega),if_neg (by omega),if_neg (by omega),if_pos (by omega)]
      have fK: ∀k,k<2000130->dR 2000130 (Gp i) k=some k:=fun k h=>if_pos h
      refine dN (i) () hlt rfl (by omega) (dR 2000130 (Gp i)) (xQ 2000130 (Gp i)) (dH.seg (by simp [Gp,oC]<;>omega) (by omega) rfl) ?_ rfl ?_
      · refine aG.eqR (t:=(aD8 s o b c 2000118 (Gq 2000300 qs s.parts (i+1)) (.sl 1 (CC++[dM (jM b c p.cells)]) (.tok 2001100)) (.sl 1 (DD++[dV (jM b c p.dyns)]) (.tok 2001101))++tkH 2001100 2001101 1)++xG 2000300 qs s.parts (i+1)) ?_ (by simp only[Zd,btc.down,btd.down,bCC.down,bDD.down];try rfl)
        refine aE1 (qs:=qs) (ps:=s.parts) ?_ (by omega) hnp hlt hql (fun k b' hk'=>?_) (fun k h=>fK k (by omega)) fN 2001264 2001277 f1 f2 ?_ ?_
        · refine aG.app (aG.cons 2000024 rfl rfl ?_ (aG.cons 20 rfl rfl ?_ (aG.cons 2000118 rfl rfl (nT _) (aG.cons 9 rfl rfl rfl (aG.cons 3 rfl rfl rfl (aG.cons 2 rfl rfl rfl (aG.cons 1 rfl rfl rfl (aG.cons 0 rfl rfl rfl aG.nil)))))))) (aG.consT 2001228 rfl f3 (aG.consT 2001250 rfl f4 aG.nil))
          · simp only[cells3,List.map_cons,List.map_nil,AV.ren,f3,f4,fK 2000118 (by omega),fK 20 (by omega),List.cons_append,List.nil_append,dV,dM,jM]
            try (simp only[cutZ bc0.down,List.map_nil])
            try (simp only[(bg4.down bg5.down).1,(bg4.down bg5.down).2,List.nil_append])
          rw[<-bB.down]
          refine(congrArg (List.map (AV.ren _)) (aId hAl)).trans ?_
          rw[btn.down,hqi,bA.down,bC.down,List.map_append,mP 2000300 2000300 _ (fun j hj=>fN j (by rw[List.length_take] at hj;omega))]
          simp only[List.map_cons,AV.ren,f1,f2]
          rw[mP (22+2*i+2) (22+2*i+2) _ (fun j hj=>fK _ (by rw[List.length_drop] at hj;omega))]
          rfl
        · have:=aCk (by omega) hnp hlt hk'
          rw[bZ.down] at hk'
          dsimp only
          repeat rw[bD (by omega)]
          rw[bV,hk']
        · rw[hqi]
          dsimp only
          repeat rw[bD (by omega)]
          rw[bV,hZt.hi _ (by omega)];simp [hget,Pa.del]
        · rw[hqi]
          dsimp only
          repeat rw[bD (by omega)]
          rw[bV,hZt.hi _ (by omega)];simp [hget,Pa.del]
      · simp [Fr.renF,kE,fE,tC,Nat.beq,AV.ren,Gp,dR,hwr,(wrap_in (by decide):IntKind.i64.wrap 1=1)]
   · have he:i=s.parts.length:=by omega
     subst he
     have h0:=hg.lo
     rw[Zd,aMk hql,aIc hql,aH9 h0,aH9 h0]
     have hT:iI 2000300 2001100 (hC (dW 2000300 (iO qs))):=(iI.fam (m:=2001100) (by rw[jD];omega))
     have hqe:(jS s b c).parts=qs:=hqs
     obtain⟨T2,hT2⟩: ∃T,hC (dW 2000300 (iO qs))=T:=⟨_,rfl⟩
     obtain⟨T3,hT3⟩: ∃T,tkH 2001100 2001101 s.parts.length=T:=⟨_,rfl⟩
     rw[hT2] at hT ⊢
     rw[hT3]
     have hT3k: ∀k b',hget T3 k=some b'->k=2001100\/k=2001101:=fun k b' h=>by
       rw[<-hT3] at h
       cases hn:s.parts.length with
       |zero=>rw[hn] at h;cases h
       | succ n=>
         rw[hn] at h
         simp only[tkH,hget] at h
         split at h
         · exact .inl ‹_›
         · split at h
           · exact .inr ‹_›
           · cases h
     have bT2:PLift (hC (dW 2000300 (iO qs))=T2):=⟨hT2⟩
     have e1:Sj b c s.parts s.parts.length=(s.parts.map fun p=>jM b c p.cells).map dM:=by rw[Sj,List.take_length,List.map_map];rfl
     have e2:Sl b c s.parts s.parts.length=(s.parts.map fun p=>jM b c p.dyns).map dV:=by rw[Sl,List.take_length,List.map_map];rfl
     rw[e1,e2]
     clear hT2 hT3 e1 e2 h0
     simp only[aD8,Qb,cells3,eG]
     repeat' (first
    |simp -implicitDefEqProofs (maxSteps:=9999999) only[↓reduceIte,aA,aC,facts,Nat.reduceAdd,Nat.reduceEqDiff,Nat.reduceLT,Nat.reduceLeDiff,List.flatMap_cons,List.flatMap_nil,AV.cells,Option.map_none,AV.one,fV,eF,List.length_drop,Int.natCast_nonneg,aT,bF,aU,aV,dA,aW, *]
    | ((with_reducible refine aF (fun _=>?_) (fun _=>?_))<;>try omega))
     rw[show(lJ s b c).av=AV.agg (.int .i64 (if(2:Int)=0 then o.kind else 2)::[.int .i64 0,.int .i64 (b:Nat),.int .i64 0,.int .i64 0,.int .i64 0,.sl 9 [] .none,.sl 14 ((jM b c s.bars).map Ba.av) .none,.sl 1 ((s.parts.map fun p=>jM b c p.cells).map dM) .none,.sl 1 ((s.parts.map fun p=>jM b c p.dyns).map dV) .none,.int .i64 0,.int .i64 0,.str ⟨#[]⟩]) from rfl]
     refine⟨0,rfl,.inr ⟨rfl,.str s.title,.msl 2000118 0 (jS s b c).bars.length 14,.msl 20 0 (jS s b c).parts.length 5,2,.int .i64 0,.int .i64 (b:Nat),.int .i64 0,.int .i64 0,.int .i64 0,.sl 9 [] .full,.sl 14 ((jM b c s.bars).map Ba.av) .none,.sl 1 ((s.parts.map fun p=>jM b c p.cells).map dM) (.tok 2001100),.sl 1 ((s.parts.map fun p=>jM b c p.dyns).map dV) (.tok 2001101),.int .i64 0,.int .i64 0,.str ⟨#[]⟩,(20,.cells (cZ 2000300 (jS s b c).parts))::(2000118,.cells ((jS s b c).bars.flatMap Ba.cells))::hC (dW 2000300 (iO (jS s b c).parts)),⟨by simp only[Nat.reduceLeDiff],?_⟩,
       aIa (s':=jS s b c) (by rw[hqe];omega) (by omega) rfl (fun _=>rfl) hts (by simp [AV.one])⟩⟩
     rw[hqe,bT2.down,hql]
     simp only[St.hp,eU,eG,aH.cells13,hk,HB,HC,jS,List.cons_append,List.nil_append]
     refine aB (by first|(simp [hget,jM];done)|simp [hget,jM,cutZ bc0.down]) (aB (by simp [hget]) (aB (by simp [hget]) (aB (by simp [hget]) (aB (by simp [hget]) (aB (by simp [hget]) (aB (by simp [hget]) (aB (by simp [hget]) fun k b' h=>?_)))))))
     have hm:=hT.mem h
     repeat rw[bD (by omega)]
     rw[bV]
     cases hx:hget T3 k with
     |some y=>have:=hT3k _ _ hx;omega
     |none=>exact h
end Go.Proofs.Pv
