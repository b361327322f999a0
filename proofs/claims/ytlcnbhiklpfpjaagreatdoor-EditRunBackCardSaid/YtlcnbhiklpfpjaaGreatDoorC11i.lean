/-
Layer 9's edits: the cell of a place; dynamics that give way.
Conditions: none but those that each statement names.
-/
import Derived.Test.YtlcnbhiklpfpjaaGreatDoorC11e
import Derived.Test.YtlcnbhiklpfpjaaGreatDoorC10c
set_option linter.unusedVariables false
set_option linter.unusedSimpArgs false
set_option maxRecDepth 100000
set_option maxHeartbeats 16000000
namespace Go.Proofs.Pv
open Go Go.Proofs
variable {Φ:oK}
theorem Iw: ∀(R:Nat) (ps:List Pa) (j:Nat) (h:j<ps.length),(List.drop (j*5+3) (cZ R ps)).head?=some (.msl (R+2*j) 0 ps[j].cells.length 1)/\(List.drop (j*5+4) (cZ R ps)).head?=some (.msl (R+2*j+1) 0 ps[j].dyns.length 1)
 |R,[],j,h=>by simp at h
 |R,p::ps,0,h=>⟨rfl,rfl⟩
 |R,p::ps,j+1,h=>by
  have:=Iw (R+2) ps j (by simpa using h)
  rw[show(j+1)*5+3=j*5+3+5 by omega,show(j+1)*5+4=j*5+4+5 by omega,show R+2*(j+1)=R+2+2*j by omega]
  simpa [cZ] using this
theorem zN: ∀(R:Nat) (ps:List Pa) (j:Nat) (p:Pa) (h:j<ps.length),p.name=ps[j].name->p.clef=ps[j].clef->p.channel=ps[j].channel->p.cells.length=ps[j].cells.length->p.dyns.length=ps[j].dyns.length->cZ R (ps.set j p)=cZ R ps
 |R,[],j,p,h,_,_,_,_,_=>by simp at h
 |R,q::ps,0,p,h,h1,h2,h3,h4,h5=>by
  simp only[List.getElem_cons_zero] at h1 h2 h3 h4 h5
  simp only[List.set_cons_zero,cZ,h1,h2,h3,h4,h5]
 |R,q::ps,j+1,p,h,h1,h2,h3,h4,h5=>by
  simp only[List.getElem_cons_succ] at h1 h2 h3 h4 h5
  simp only[List.set_cons_succ,cZ,zN (R+2) ps j p (by simpa using h) h1 h2 h3 h4 h5]
theorem rD.paX {hp0 hp:Hp} {R D:Nat} {ps:List Pa} (t:rD Φ hp0 R D ps) (hD:1000<=D) (i:Nat) (h:i<ps.length) (hm: ∀k b,(k=R+2*i\/k=R+2*i+1\/(D+eQ Φ ps i<=k/\k<D+eQ Φ ps i+cnt Φ ps[i].cells))->hp0 k=some b->hp k=some b):Zh hp (R+2*i) (R+2*i+1) ps[i]:=by
 refine⟨_,_,hm _ _ (.inl rfl) (t.row i h),zF (d:=1) _ _ (by omega) (fun q hq=>?_),hm _ _ (.inr (.inl rfl)) (t.dyn i h),?_⟩
 ·have hq2:=hq
  rw[kN] at hq2
  exact hm _ _ (.inr (.inr ⟨by omega,by omega⟩)) (wE D ps i h t.dp q hq)
 ·rw[lV (c:=fP) (fun _=>rfl)]
  exact nZ (c:=eP) _
theorem aSm {hp:Hp} {R:Nat} {ps:List Pa} {j:Nat} {p:Pa} (h1:Zh hp (R+2*j) (R+2*j+1) p) (h2: ∀i (hi:i<ps.length),i≠j->Zh hp (R+2*i) (R+2*i+1) ps[i]): ∀i (hi:i< (ps.set j p).length),Zh hp (R+2*i) (R+2*i+1) (ps.set j p)[i]:=by
 intro i hi
 rw[List.length_set] at hi
 by_cases e:j=i
 ·subst e
  rw[List.getElem_set_self];exact h1
 ·rw[List.getElem_set_ne e];exact h2 i hi fun e'=>e e'.symm
theorem vK {h:List (Nat×aI)} {k q:Nat} {b:aI}:hget (hset h k b) q=if q=k then some b else hget h q:=by rw[zH];rfl
theorem Ko {s:Sc} (hs:s.small) {j:Nat} {p:Pa} (hp:p.small):({s with parts:=s.parts.set j p}:Sc).small:=by
 refine⟨hs.bars,fun q hq=>?_,hs.nbars,by rw[List.length_set];exact hs.nparts⟩
 rcases List.mem_or_eq_of_mem_set hq with h|h
 ·exact hs.parts q h
 ·subst h;exact hp
theorem uF {α:Type} {l:List α} {j:Nat} {d:α} (h:j<l.length):l.getD j d=l[j]:=by rw[List.getD_eq_getElem?_getD,List.getElem?_eq_getElem h];rfl
def Ep (s:Sc) (j b:Nat) (d:List Dy):Sc:= {s with parts:=s.parts.set j {s.parts.getD j pa0 with dyns:=(s.parts.getD j pa0).dyns.set b d}}
def Rf (s:Sc) (j b:Nat):aH:=⟨5,j,b,0,0,0,[],[],[],[[(s.parts.getD j pa0).dyns.getD b []]],0,0,⟨#[]⟩⟩
theorem aPl (s:Sc) (o:aH) (hk:o.kind=5) (hs:s.small) (hg:s.goodU Φ) (j b:Nat) (hj:j<s.parts.length) (hb:b<s.bars.length) (hoj:o.part=(j:Nat)) (hob:o.bar=(b:Nat)) (hc1:s.parts[j].cells.length=s.bars.length) (hc2:s.parts[j].dyns.length=s.bars.length) (x:List Dy) (hx:o.dyns=[[x]]) (hxl:x.length<=1000000) (hxs: ∀t∈x,t.at_.fits) {F:Fence} (hF:Free F) (hro:F.round=none) {W:World}:aP F Tryz.prog gl W 24 [.ptr 2000024 0] (MK s o (fun v=>v=uY (Ep s j b x) (Rf s j b).av)) ⟨iD Φ s o,2000068⟩:=by
 have hT:=sW s hg
 have hA:=yQ s hg
 have hcl:=Qx x hxl
 rw[iD,eU,eG]
 generalize lW Φ s=T at hT hA ⊢
 have hpl:(cZ 22 s.parts).length=s.parts.length*5:=kY _ _
 have hr:=Iw 22 s.parts j hj
 obtain⟨r1,r2⟩:=hr
 have hrow:=hA.row j hj
 have hdyn:=hA.dyn j hj
 rw[hc1] at r1
 rw[hc2] at r2
 obtain⟨K,hK⟩: ∃K,22+2*j+1=K:=⟨_,rfl⟩
 obtain⟨K2,hK2⟩: ∃K,22+2*j=K:=⟨_,rfl⟩
 have hnp:=hg.hi
 rw[hK] at hdyn
 rw[hK2] at hrow
 rw[hK] at r2
 rw[hK2] at r1
 have n1: ∀n,n<22->(K=n)=False:=fun n h=>eq_false (by omega)
 have n2: ∀n,1000<=n->(K=n)=False:=fun n h=>eq_false (by omega)
 have bK:PLift (22+2*j+1=K):=⟨hK⟩
 have bK2:PLift (22+2*j=K2):=⟨hK2⟩
 clear hK hK2
 have k1:((j:Nat):Int)< ((s.parts.length:Nat):Int):=by omega
 have k2:((b:Nat):Int)< ((s.bars.length:Nat):Int):=by omega
 have k3:j*5<=s.parts.length*5:=by omega
 have k4:j*5+3<=s.parts.length*5:=by omega
 have k5:j*5+4<=s.parts.length*5:=by omega
 have k6:1<=s.parts.length*5 - (j*5+3):=by omega
 have k7:1<=s.parts.length*5 - (j*5+4):=by omega
 have hfl:(s.parts[j].dyns.flatMap fP).length=s.bars.length:=by rw[flat_length (k:=1) (fun _=>rfl),Nat.mul_one,hc2]
 have hbd:b<s.parts[j].dyns.length:=by omega
 have hdr:(List.drop b (s.parts[j].dyns.flatMap fP)).head?=some (eP s.parts[j].dyns[b]):=by
  have:=Vd (c:=fP) (k:=1) (fun _=>rfl) s.parts[j].dyns b (by omega)
  rw[Nat.mul_one] at this
  rw[this,List.drop_eq_getElem_cons hbd];rfl
 have k8:b<=s.bars.length:=by omega
 have k9:1<=s.bars.length - b:=by omega
 have k10:b+1<=s.bars.length:=by omega
 have hdT: ∀n,1000000<=n->hdel T n=T:=fun n h=>gY (hT.hi n h)
 obtain⟨DR,hDR⟩: ∃DR,s.parts[j].dyns.flatMap fP=DR:=⟨_,rfl⟩
 rw[hDR] at hdyn hfl hdr
 have bDR:PLift (s.parts[j].dyns.flatMap fP=DR):=⟨hDR⟩
 clear hDR
 generalize hdb:s.parts[j].dyns[b]=d0 at hdr
 simp only[eP] at hdr
 (refine aP.introZ hF hro 3 mix names (fn:=Tryz.f24) Tryz.func24 rfl ?_;simp only[Tryz.ntmps24,Tryz.results24,aJ,Nat.reduceAdd,Nat.reduceSub])
 repeat' (first
  |simp -implicitDefEqProofs (maxSteps:=9999999) only[↓reduceIte,aA,aC,facts,Nat.reduceAdd,Nat.reduceEqDiff,Nat.reduceLT,Nat.reduceLeDiff,Int.reduceLE,Int.reduceBNe,List.flatMap_cons,List.flatMap_nil,AV.cells,AV.one,aH.cells13,hx,hob,hoj,eP,dV,fV,eF,jF,kG,List.length_drop,Int.natCast_nonneg,bF,aU,aV,dB,aW, *]
  |((with_reducible refine dG 48 ?_);refine bW (iF _ _ (by omega)) (rfl) ?_)
  |((with_reducible refine aO ?_);refine bM (by decide+kernel) ?_)
  |((with_reducible refine dP ?_ ?_);· decide+kernel)
  |((with_reducible refine dP ?_ ?_);· kernel_rfl)
  |((with_reducible refine aS 43 ?_);refine PC.useZ hF hcl (rfl) fun v hv=>?_;subst hv)
  |((with_reducible refine aS 47 ?_);(refine iI hF hro mix names 2 (fn:=Tryz.f47) Tryz.func47 rfl ?_;simp only[Tryz.ntmps47,Tryz.results47,aJ,Nat.reduceAdd,Nat.reduceSub])))
 have hKe:=bK.down
 obtain⟨p,hpe⟩: ∃p,s.parts[j]=p:=⟨_,rfl⟩
 have hgd:s.parts.getD j pa0=p:=(uF hj).trans hpe
 have hps:p.small:=by rw[<-hpe];exact hs.parts _ (List.getElem_mem hj)
 obtain⟨p',hp'⟩: ∃p':Pa,{p with dyns:=p.dyns.set b x}=p':=⟨_,rfl⟩
 have hs'e:Ep s j b x= {s with parts:=s.parts.set j p'}:=by rw[Ep,hgd,hp']
 have hbe:(p.dyns.getD b [])=d0:=by rw[<-hdb];simp only[hpe];exact uF (by rw[hpe] at hbd;exact hbd)
 rw[show(Rf s j b).av=AV.agg (.int .i64 (if(0:Int)=0 then o.kind else 0)::[.int .i64 (j:Nat),.int .i64 (b:Nat),.int .i64 0,.int .i64 0,.int .i64 0,.sl 9 [] .none,.sl 14 [] .none,.sl 1 [] .none,.sl 1 [.sl 1 [.sl 4 (d0.map Dy.av) .none] .none] .none,.int .i64 0,.int .i64 0,.str ⟨#[]⟩]) from by rw[if_pos rfl,hk,Rf,hgd,hbe];rfl,hs'e]
 have hpt:cZ 22 (s.parts.set j p')=cZ 22 s.parts:=zN 22 s.parts j p' hj (by rw[<-hp',hpe]) (by rw[<-hp',hpe]) (by rw[<-hp',hpe]) (by rw[<-hp',hpe]) (by rw[<-hp',hpe];exact List.length_set)
 have hTm: ∀k b',hget (hset T K (.cells (List.take b DR++[AV.sl 4 (List.map Dy.av x) Tk.none]++List.drop (b+1) DR))) k=some b'->22<=k/\k<1000000:=fun k b' h=>by
  rw[vK] at h
  split at h
  ·omega
  ·exact hT.mem h
 refine⟨0,rfl,.inr ⟨rfl,.str s.title,.msl 21 0 s.bars.length 14,.msl 20 0 (s.parts.set j p').length 5,0,.int .i64 (j:Nat),.int .i64 (b:Nat),.int .i64 0,.int .i64 0,.int .i64 0,.sl 9 [] .full,.sl 14 [] .full,.sl 1 [] .full,.sl 1 [.sl 1 [.sl 4 (d0.map Dy.av) .none] .none] .full,.int .i64 0,.int .i64 0,.str ⟨#[]⟩,(20,.cells (cZ 22 (s.parts.set j p')))::(21,.cells (s.bars.flatMap Ba.cells))::hset T K (.cells (List.take b DR++[AV.sl 4 (List.map Dy.av x) Tk.none]++List.drop (b+1) DR)),⟨by simp only[Nat.reduceLeDiff],?_⟩,
  Ya (s':= {s with parts:=s.parts.set j p'}) (T:=hset T K (.cells (List.take b DR++[AV.sl 4 (List.map Dy.av x) Tk.none]++List.drop (b+1) DR))) (fun k b h=>by have:=hTm k b h;omega) (by rw[List.length_set];exact hg.hi) (fun hp h=>⟨aSm ?_ fun i hi hij=>hA.paX (by omega) i hi fun k b' hkk hk'=>h k b' ?_,rfl⟩) (Ko hs ⟨?_,?_⟩) (by simp [AV.one])⟩⟩
 ·rw[hpt]
  simp only[St.hp,eU,eG,aH.cells13,hk,hx,hob,hoj,dV,eP,List.length_set,List.map_cons,List.map_nil,List.cons_append,List.nil_append]
  (refine aB (by simp [hget]) (aB (by simp [hget]) (aB (by simp [hget]) (aB (by simp [hget]) (aB (by simp [hget]) (aB (by simp [hget]) (aB (by simp [hget]) (aB (by simp [hget]) (fun k b h=>?_))))))));have hmm:=hTm _ _ h;(repeat(first|rw[bD (by omega)]|rw[sG (by omega)]));exact h)
 ·have hput:=Ip (c:=fP) (k:=1) (fun _=>rfl) s.parts[j].dyns b hbd x
  rw[bDR.down,Nat.mul_one] at hput
  refine⟨_,_,h _ _ (by rw[vK,if_neg (by omega)];exact hA.row j hj),?_,by rw[hKe];exact h K _ (by rw[vK,if_pos rfl]),?_⟩
  ·rw[zF (d:=1) _ _ (by omega) fun q hq=>?_]
   ·rw[<-hp',hpe]
   ·rw[kN] at hq
    exact h _ _ (by rw[vK,if_neg (by omega)];exact wE _ _ j hj hA.dp q (by rw[kN];exact hq))
  ·have e:[AV.sl 4 (List.map Dy.av x) Tk.none]=fP x:=rfl
   rw[e,hput,lV (c:=fP) (fun _=>rfl),<-hp',<-hpe]
   exact nZ (c:=eP) _
 ·rw[vK,if_neg (by omega)];exact hk'
 ·rw[<-hp'];exact hps.voices
 ·rw[<-hp']
  intro d hd
  rcases List.mem_or_eq_of_mem_set hd with h|h
  ·exact hps.dyns d h
  ·subst h;exact⟨hxl,hxs⟩
theorem aUq (s:Sc) (o:aH) (hk:o.kind=5) (hg:s.goodU Φ) (hno: ¬((0<=o.part/\o.part< (s.parts.length:Nat))/\(0<=o.bar/\o.bar< (s.bars.length:Nat))/\ ∃x,o.dyns=[[x]])) (hlen: ∀j (h:j<s.parts.length),s.parts[j].cells.length=s.bars.length) {F:Fence} (hF:Free F) (hro:F.round=none) {W:World}:aP F Tryz.prog gl W 24 [.ptr 2000024 0] (MK s o (fun v=>v=errR 90)) ⟨iD Φ s o,2000068⟩:=by
  rw[iD,eU,eG]
  generalize lW Φ s=T
  by_cases h1:0<=o.part/\o.part< (s.parts.length:Nat)
  · obtain ⟨j,hoj⟩: ∃j:Nat,o.part=(j:Nat):=⟨o.part.toNat,by omega⟩
    have hj:j<s.parts.length:=by omega
    by_cases h2:0<=o.bar/\o.bar< (s.bars.length:Nat)
    · obtain⟨b,hob⟩: ∃b:Nat,o.bar=(b:Nat):=⟨o.bar.toNat,by omega⟩
      have hpl:(cZ 22 s.parts).length=s.parts.length*5:=kY _ _
      have r1:=(Iw 22 s.parts j hj).1
      rw[hlen j hj] at r1
      rw[hoj] at h1
      rw[hob] at h2
      have k1:((j:Nat):Int)< ((s.parts.length:Nat):Int):=by omega
      have k2:((b:Nat):Int)< ((s.bars.length:Nat):Int):=by omega
      have k4:j*5+3<=s.parts.length*5:=by omega
      have k6:1<=s.parts.length*5 - (j*5+3):=by omega
      rcases hd:o.dyns with _|⟨d,_|⟨e,r⟩⟩
      · (refine aP.introZ hF hro 3 mix names (fn:=Tryz.f24) Tryz.func24 rfl ?_;simp only[Tryz.ntmps24,Tryz.results24,aJ,Nat.reduceAdd,Nat.reduceSub])
        repeat' (first
    |simp -implicitDefEqProofs (maxSteps:=9999999) only[↓reduceIte,aA,aC,facts,Nat.reduceAdd,Nat.reduceEqDiff,Nat.reduceLeDiff,Int.reduceBNe,List.flatMap_cons,List.flatMap_nil,AV.cells,Option.map_none,AV.one,aH.cells13,hd,hob,hoj,List.length_drop,bF,aU,aV,aW, *]
    |((with_reducible refine dG 48 ?_);refine bW (iF _ _ h1) (rfl) ?_)
    |((with_reducible refine dG 48 ?_);refine bW (iF _ _ h2) (rfl) ?_)
    |((with_reducible refine aO ?_);refine bM (by decide+kernel) ?_)
    |((with_reducible refine dP ?_ ?_);· decide+kernel)
    | ((with_reducible refine aS 47 ?_);(refine iI hF hro mix names 2 (fn:=Tryz.f47) Tryz.func47 rfl ?_;simp only[Tryz.ntmps47,Tryz.results47,aJ,Nat.reduceAdd,Nat.reduceSub])))
        refine jL (by decide) (by simp only[Nat.reduceLeDiff]) rfl ?_
        simp only[eU,eG,aH.cells13,hk,hoj,hob,hd,List.map_nil]
        exact aB (by simp [hget]) (aB (by simp [hget]) (aB (by simp [hget]) (aB (by simp [hget]) (aB (by simp [hget]) fun k b h=>by cases h))))
      · have h3:(((d.length:Nat):Int) !=1)=true:=by
          have:d.length≠1:=fun h=>hno ⟨by rw[hoj];exact h1,by rw[hob];exact h2,by
            obtain⟨x,hx⟩:=List.length_eq_one_iff.1 h
            exact⟨x,by rw[hd,hx]⟩⟩
          simp;omega
        (refine aP.introZ hF hro 3 mix names (fn:=Tryz.f24) Tryz.func24 rfl ?_;simp only[Tryz.ntmps24,Tryz.results24,aJ,Nat.reduceAdd,Nat.reduceSub])
        repeat' (first
    |simp -implicitDefEqProofs (maxSteps:=9999999) only[↓reduceIte,aA,aC,facts,Nat.reduceAdd,Nat.reduceEqDiff,Nat.reduceLeDiff,Int.reduceLE,Int.reduceBNe,List.flatMap_cons,List.flatMap_nil,AV.cells,AV.one,aH.cells13,hd,hob,hoj,dV,List.length_drop,bF,aU,aV,aW, *]
    |((with_reducible refine dG 48 ?_);refine bW (iF _ _ h1) (rfl) ?_)
    |((with_reducible refine dG 48 ?_);refine bW (iF _ _ h2) (rfl) ?_)
    |((with_reducible refine aO ?_);refine bM (by decide+kernel) ?_)
    |((with_reducible refine dP ?_ ?_);· decide+kernel)
    | ((with_reducible refine aS 47 ?_);(refine iI hF hro mix names 2 (fn:=Tryz.f47) Tryz.func47 rfl ?_;simp only[Tryz.ntmps47,Tryz.results47,aJ,Nat.reduceAdd,Nat.reduceSub])))
        refine jL (by decide) (by simp only[Nat.reduceLeDiff]) rfl ?_
        simp only[eU,eG,aH.cells13,hk,hoj,hob,hd,dV,List.map_nil,List.map_cons]
        exact aB (by simp [hget]) (aB (by simp [hget]) (aB (by simp [hget]) (aB (by simp [hget]) (aB (by simp [hget]) fun k b h=>by cases h))))
      · have h3:(((r.length+1+1:Nat):Int) !=1)=true:=by simp;omega
        (refine aP.introZ hF hro 3 mix names (fn:=Tryz.f24) Tryz.func24 rfl ?_;simp only[Tryz.ntmps24,Tryz.results24,aJ,Nat.reduceAdd,Nat.reduceSub])
        repeat' (first
    |simp -implicitDefEqProofs (maxSteps:=9999999) only[↓reduceIte,aA,aC,facts,Nat.reduceAdd,Nat.reduceEqDiff,Nat.reduceLeDiff,List.flatMap_cons,List.flatMap_nil,AV.cells,Option.map_none,AV.one,aH.cells13,hd,hob,hoj,List.length_drop,bF,aU,aV,aW, *]
    |((with_reducible refine dG 48 ?_);refine bW (iF _ _ h1) (rfl) ?_)
    |((with_reducible refine dG 48 ?_);refine bW (iF _ _ h2) (rfl) ?_)
    |((with_reducible refine aO ?_);refine bM (by decide+kernel) ?_)
    |((with_reducible refine dP ?_ ?_);· decide+kernel)
    | ((with_reducible refine aS 47 ?_);(refine iI hF hro mix names 2 (fn:=Tryz.f47) Tryz.func47 rfl ?_;simp only[Tryz.ntmps47,Tryz.results47,aJ,Nat.reduceAdd,Nat.reduceSub])))
        refine jL (by decide) (by simp only[Nat.reduceLeDiff]) rfl ?_
        simp only[eU,eG,aH.cells13,hk,hoj,hob,hd,List.map_nil,List.map_cons]
        exact aB (by simp [hget]) (aB (by simp [hget]) (aB (by simp [hget]) (aB (by simp [hget]) (aB (by simp [hget]) fun k b h=>by cases h))))
    · clear hoj
      (refine aP.introZ hF hro 3 mix names (fn:=Tryz.f24) Tryz.func24 rfl ?_;simp only[Tryz.ntmps24,Tryz.results24,aJ,Nat.reduceAdd,Nat.reduceSub])
      repeat' (first
    |simp -implicitDefEqProofs (maxSteps:=9999999) only[↓reduceIte,aA,aC,facts,Nat.reduceAdd,Nat.reduceEqDiff,Nat.reduceLeDiff,List.flatMap_cons,List.flatMap_nil,AV.cells,Option.map_none,AV.one,aH.cells13,bF,aU,aV,aW, *]
    |((with_reducible refine dG 48 ?_);refine bW (iF _ _ h1) (rfl) ?_)
    |((with_reducible refine dG 48 ?_);refine bW (tH _ _ h2) (rfl) ?_)
    |((with_reducible refine aO ?_);refine bM (by decide+kernel) ?_)
    |((with_reducible refine dP ?_ ?_);· decide+kernel)
    | ((with_reducible refine aS 47 ?_);(refine iI hF hro mix names 2 (fn:=Tryz.f47) Tryz.func47 rfl ?_;simp only[Tryz.ntmps47,Tryz.results47,aJ,Nat.reduceAdd,Nat.reduceSub])))
      (refine jL (by decide) (by simp only[Nat.reduceLeDiff]) rfl ?_;simp only[eU,eG,aH.cells13,hk];exact aB (by simp [hget]) (aB (by simp [hget]) (aB (by simp [hget]) (aB (by simp [hget]) (aB (by simp [hget]) fun k b h=>by cases h)))))
  · (refine aP.introZ hF hro 3 mix names (fn:=Tryz.f24) Tryz.func24 rfl ?_;simp only[Tryz.ntmps24,Tryz.results24,aJ,Nat.reduceAdd,Nat.reduceSub])
    repeat' (first
    |simp -implicitDefEqProofs (maxSteps:=9999999) only[↓reduceIte,aA,aC,facts,Nat.reduceAdd,Nat.reduceEqDiff,Nat.reduceLeDiff,List.flatMap_cons,List.flatMap_nil,AV.cells,Option.map_none,AV.one,aH.cells13,bF,aU,pG,aV,aW, *]
    |((with_reducible refine dG 48 ?_);refine bW (tH _ _ h1) (rfl) ?_)
    |((with_reducible refine aO ?_);refine bM (by decide+kernel) ?_)
    |((with_reducible refine dP ?_ ?_);· decide+kernel)
    |((with_reducible refine aS 47 ?_);(refine iI hF hro mix names 2 (fn:=Tryz.f47) Tryz.func47 rfl ?_;simp only[Tryz.ntmps47,Tryz.results47,aJ,Nat.reduceAdd,Nat.reduceSub])))
    (refine jL (by decide) (by simp only[Nat.reduceLeDiff]) rfl ?_;simp only[eU,eG,aH.cells13,hk];exact aB (by simp [hget]) (aB (by simp [hget]) (aB (by simp [hget]) (aB (by simp [hget]) (aB (by simp [hget]) fun k b h=>by cases h)))))
end Go.Proofs.Pv
namespace Go.Proofs.Pv
open Go Go.Proofs
variable {Φ:oK}
section
variable {P:Program} {G:Nat->Option (List AV)}
theorem Rd.introN (d:Nat) (n0:Nat) (hmix:P.follows .mixedOrders=true) (hname: ∀(f:Nat) (fn:Func),P.funcs[f]?=some fn->fn.name≠ "runtime.NumGoroutine") {f:FuncId} {fn:Func} {c:Code} {args:List AV} {v:AV} {hl:List (Nat×aI)} (hf:P.funcs[f]?=some fn) (hb:fn.body=some c)
  (hv: ∀f:Nat->Option Nat,(∀k b,hget hl k=some b->f k=some k)->v.ren f=v)
  (h: ∀nx,n0<=nx-> ∀(F:Fence),Free F->F.round=none-> ∀(W:World),fG P G (OZ F P G W true d) c (mP P (OZ F P G W true d) fn.results.toList (fun v st=>(v,st)) (RdK v hl)) (uG fn.ntmps args) ⟨hl,nx⟩):Rd P G f args (hget hl) v:=
 Rd.intro n0 hv fun nx hnx F hF hro W=>aP.introZ hF hro d hmix hname hf hb (h nx hnx F hF hro W)
end
def aAz (s:Sc) (o:aH) (K:Nat) (row:List AV):List (Nat×aI):=[(2000024,.cells (.str s.title:: .msl 21 0 s.bars.length 14:: .msl 20 0 s.parts.length 5::(o.cells13++eG))),(20,.cells (cZ 22 s.parts)),(K,.cells row)]
theorem Qu (s:Sc) (o:aH) (j b:Nat) (hj:j<s.parts.length) (hb:b<s.bars.length) (hoj:o.part=(j:Nat)) (hob:o.bar=(b:Nat)) (hc1:s.parts[j].cells.length=s.bars.length) (K:Nat) (hK:22+2*j=K) (hn:s.parts.length<=400) (row:List AV):Rd Tryz.prog gl 47 [.ptr 2000024 0] (hget (aAz s o K row)) (.ptr K b):=by
 have hpl:(cZ 22 s.parts).length=s.parts.length*5:=kY _ _
 have r1:=(Iw 22 s.parts j hj).1
 rw[hc1,hK] at r1
 have k1:((j:Nat):Int)< ((s.parts.length:Nat):Int):=by omega
 have k2:((b:Nat):Int)< ((s.bars.length:Nat):Int):=by omega
 have k4:j*5+3<=s.parts.length*5:=by omega
 have k6:1<=s.parts.length*5 - (j*5+3):=by omega
 have n0: ∀n,n<22->(K=n)=False:=fun n h=>eq_false (by omega)
 have n1: ∀n,1000<=n->(K=n)=False:=fun n h=>eq_false (by omega)
 refine Rd.introN 2 3000000 mix names (fn:=Tryz.f47) Tryz.func47 rfl (fun f hf=>by rw[AV.ren,hf K (.cells row) (by simp only[aAz,hget,n0,n1,↓reduceIte,Nat.reduceLT,Nat.reduceLeDiff])]) fun nx hnx F hF hro W=>?_
 have m1: ∀k,(2000024=nx+k)=False:=fun k=>eq_false (by omega)
 have m2: ∀k,(20=nx+k)=False:=fun k=>eq_false (by omega)
 have m3: ∀k,(K=nx+k)=False:=fun k=>eq_false (by omega)
 have m4: ∀k,(nx+k=2000024)=False:=fun k=>eq_false (by omega)
 have m5: ∀k,(nx+k=20)=False:=fun k=>eq_false (by omega)
 have m6: ∀k,(nx+k=K)=False:=fun k=>eq_false (by omega)
 have q1:(2000024=nx)=False:=eq_false (by omega)
 have q2:(20=nx)=False:=eq_false (by omega)
 have q3:(K=nx)=False:=eq_false (by omega)
 have q4:(nx=2000024)=False:=eq_false (by omega)
 have q5:(nx=20)=False:=eq_false (by omega)
 have q6:(nx=K)=False:=eq_false (by omega)
 clear hK hnx
 simp only[Tryz.ntmps47,Tryz.results47,aJ,Nat.reduceAdd,Nat.reduceSub,aAz,eG]
 repeat' (first
  |simp -implicitDefEqProofs (maxSteps:=9999999) only[↓reduceIte,aA,aC,facts,Nat.reduceAdd,Nat.reduceEqDiff,Nat.reduceLeDiff,List.flatMap_cons,List.flatMap_nil,AV.cells,AV.one,aH.cells13,hoj,hob,Nat.add_assoc,Nat.add_left_cancel_iff,List.length_drop,lL,Int.natCast_nonneg,bF,aU,aV,aW, *]
  |((with_reducible refine dG 48 ?_);refine bW (iF _ _ (by omega)) (rfl) ?_)
  |((with_reducible refine aO ?_);refine bM (by decide+kernel) ?_)
  |((with_reducible refine dP ?_ ?_);· kernel_rfl))
 have w1: ¬(20:Nat)=2000024:=by decide
 exact aB (by simp only[hget,m1,q1,↓reduceIte]) (aB (by simp only[hget,m2,q2,Nat.reduceEqDiff,↓reduceIte]) (aB (by simp only[hget,m3,q3,n0,n1,Nat.reduceLT,Nat.reduceLeDiff,↓reduceIte]) fun k b h=>by cases h))
theorem rQ {s:Sc} {o:aH} {K:Nat} {row:List AV} {h:DH} (h1:bY h 2000024=some (.cells (.str s.title:: .msl 21 0 s.bars.length 14:: .msl 20 0 s.parts.length 5::(o.cells13++eG)))) (h2:bY h 20=some (.cells (cZ 22 s.parts))) (h3:bY h K=some (.cells row)): ∀k b,hget (aAz s o K row) k=some b->k∈[2000024,20,K]/\bY h k=some b:=by
 intro k b hk
 simp only[aAz,hget] at hk
 split at hk
 ·rename_i e;subst e;exact⟨by simp,by rw[h1];exact hk⟩
 ·split at hk
  ·rename_i e;subst e;exact⟨by simp,by rw[h2];exact hk⟩
  ·split at hk
   ·rename_i e;subst e;exact⟨by simp,by rw[h3];exact hk⟩
   ·cases hk
theorem xG {K K3:Nat} (h1:K<=1500000) (h2:K3<=1500001) (k:Nat):k<=if k=K then 1500000 else if k=K3 then 1500001 else k:=by
 by_cases e:k=K
 ·rw[if_pos e];omega
 ·rw[if_neg e]
  by_cases e2:k=K3
  ·rw[if_pos e2];omega
  ·rw[if_neg e2];exact Nat.le_refl _
theorem aUi {f:Nat->Option Nat} {k:Nat} {r:List AV}:AV.ren f (.sl k r .none)= .sl k r .none:=rfl
theorem yF {f:Nat->Option Nat} (l:List Vo):(l.flatMap fC).map (AV.ren f)=l.flatMap fC:=jR (c:=fC) (fun _=>rfl) l
theorem aB8 (l:List Vo):(l.flatMap fC).all AV.one=true:=Au (fun _=>rfl) l
theorem aWd (l es:List Vo) (a:Nat) (ha:a<=l.length) (hs:l.length+es.length<=1000000):dE Tryz.prog gl 64 [.msl 0 0 l.length 1,.int .i64 (a:Nat),iR 1 1 es.length] (hC ((0,l.flatMap fC)::jI 1 (es.flatMap fC) es.length)) 2 (.msl 0 0 (insL l es a).length 1) [(0,(insL l es a).flatMap fC)] 1:=by
 have:=Hz (.inr (.inr ⟨rfl,rfl⟩)) ((l.take a).flatMap fC) ((l.drop a).flatMap fC) (es.flatMap fC) a (l.length - a) es.length (by rw[yS,List.length_take];congr 1<;>omega) (by rw[yS,List.length_drop]) (by rw[yS]) (aB8 _) (aB8 _) (aB8 _) (fun f=>yF _) (fun f=>yF _) (fun f=>yF _) (by omega)
 have e1:a+(l.length - a)=l.length:=by omega
 have e2:(insL l es a).length=a+es.length+(l.length - a):=by rw[rU ha];omega
 have e3:(l.take a).flatMap fC++(l.drop a).flatMap fC=l.flatMap fC:=by rw[<-List.flatMap_append,List.take_append_drop]
 have e4:(l.take a).flatMap fC++es.flatMap fC++(l.drop a).flatMap fC=(insL l es a).flatMap fC:=by simp only[insL,List.flatMap_append]
 rw[e1,e3,e4,<-e2] at this
 exact this
theorem aUj {F:Fence} (hF:Free F) (hro:F.round=none) {W:World} (l es:List Vo) (a:Nat) (ha:a<=l.length) (hs:l.length+es.length<=1000000) (m:Nat) (hm:es.length=m+1) {q r nx:Nat} (hqr:q≠r):
  aP F Tryz.prog gl W 64 [.msl q 0 l.length 1,.int .i64 (a:Nat),.msl r 0 (m+1) 1] (fun u su=>u= .msl nx 0 (insL l es a).length 1/\su=⟨[(nx,.cells ((insL l es a).flatMap fC))],nx+1⟩) ⟨[(q,.cells (l.flatMap fC)),(r,.cells (es.flatMap fC))],nx⟩:=by
 have:=aWd l es a ha hs
 rw[hm] at this
 simp only[dY,bJ,aK,aN] at this
 exact Et hF hro this hqr (fun f=>yF _) (fun f=>yF _) (fun f=>yF _)
theorem aUk {F:Fence} (hF:Free F) (hro:F.round=none) {W:World} (l:List Vo) (a d:Nat) (ha:a+d<=l.length) (hs:l.length<=1000000) {q nx:Nat}:
  aP F Tryz.prog gl W 65 [.msl q 0 l.length 1,.int .i64 (a:Nat),.int .i64 ((a+d:Nat):Int)] (fun u su=>u= .msl nx 0 (gJ l a d).length 1/\su=⟨[(nx,.cells ((gJ l a d).flatMap fC))],nx+1⟩) ⟨[(q,.cells (l.flatMap fC))],nx⟩:=by
 have:=Ho (.inr (.inr ⟨rfl,rfl⟩)) ((l.take a).flatMap fC) (((l.drop a).take d).flatMap fC) ((l.drop (a+d)).flatMap fC) a d (l.length - (a+d)) (by rw[yS,List.length_take];congr 1<;>omega) (by rw[yS,List.length_take,List.length_drop];congr 1<;>omega) (by rw[yS,List.length_drop]) (aB8 _) (aB8 _) (aB8 _) (fun f=>yF _) (fun f=>yF _) (by omega)
 have e1:a+d+(l.length - (a+d))=l.length:=by omega
 have e2:(gJ l a d).length=a+(l.length - (a+d)):=by rw[yN ha];omega
 have e3:(l.take a).flatMap fC++((l.drop a).take d).flatMap fC++(l.drop (a+d)).flatMap fC=l.flatMap fC:=by
  rw[<-List.flatMap_append,<-List.flatMap_append,<-List.drop_drop,List.append_assoc,List.take_append_drop,List.take_append_drop]
 have e4:(l.take a).flatMap fC++(l.drop (a+d)).flatMap fC=(gJ l a d).flatMap fC:=by simp only[gJ,List.flatMap_append]
 rw[e1,e3,e4,<-e2] at this
 exact uN hF hro this (by decide) (fun f=>rfl) (fun f=>yF _) (fun f=>yF _)
theorem aDr: ∀(K:Nat) (cs:List (List Vo)) (b:Nat) (h:b<cs.length),(List.drop b (eH Φ K cs)).head?=some (Φ.cell (K+cnt Φ (cs.take b)) cs[b])
 |K,[],b,h=>by simp at h
 |K,c::cs,0,h=>rfl
 |K,c::cs,b+1,h=>by
  have:=aDr (K+Φ.sz c) cs b (by simpa using h)
  simp only[eH,List.drop_succ_cons,this,List.take_succ_cons,cnt,List.getElem_cons_succ,Nat.add_assoc]
theorem Ij (hm: ∀K c,Φ.cell K c= .msl K 0 c.length 1:=by intro _ _;rfl) (K:Nat) (cs:List (List Vo)) (b:Nat) (h:b<cs.length):(List.drop b (eH Φ K cs)).head?=some (.msl (K+cnt Φ (cs.take b)) 0 cs[b].length 1):=by rw[aDr K cs b h,hm]
theorem Ny {hp:Hp}: ∀(K:Nat) (cs:List (List Vo)) (b:Nat) (h:b<cs.length),jK hp K (csB Φ K cs)->jK hp (K+cnt Φ (cs.take b)) (Φ.blk (K+cnt Φ (cs.take b)) cs[b])
 |K,[],b,h,_=>by simp at h
 |K,c::cs,0,h,hb=>hb.left
 |K,c::cs,b+1,h,hb=>by
  have hr:=hb.right
  rw[Φ.len] at hr
  have:=Ny (K+Φ.sz c) cs b (by simpa using h) hr
  simp only[List.take_succ_cons,cnt,List.getElem_cons_succ,<-Nat.add_assoc]
  exact this
theorem iJ.del {n m k:Nat} {Z:List (Nat×aI)} (t:iJ n m Z):iJ n m (hdel Z k):=⟨fun q h=>by rw[qB];simp [dD,t.lo q h],fun q h=>by rw[qB];simp [dD,t.hi q h]⟩
theorem iT {Z:List (Nat×aI)} {q k:Nat}:hget (hdel Z q) k=if k=q then none else hget Z k:=by rw[qB];rfl
theorem aGn: ∀ {Z:List (Nat×aI)} {x:Nat×aI},x∈Z->hget Z x.1≠none
 |[],x,h=>by cases h
 | (q,b)::r,x,h=>by
  simp only[hget]
  split
  ·simp
  ·rename_i hne
   rcases List.mem_cons.1 h with e|h
   ·subst e;exact absurd rfl hne
   ·exact aGn h
theorem pK {R:List Nat} {Z:List (Nat×aI)} (h: ∀k,R.contains k=true->hget Z k=none):hsel R (iU Z)=[]/\hkeep R (iU Z)=iU Z:=by
 have hx: ∀x∈iU Z,R.contains x.1=false:=fun x hx=>by
  obtain⟨y,hy,rfl⟩:=List.mem_map.1 hx
  show R.contains y.1=false
  cases hc:R.contains y.1 with
  |false=>rfl
  |true=>exact absurd (h _ hc) (aGn hy)
 refine⟨List.filter_eq_nil_iff.2 fun x h=>by rw[hx x h];decide,List.filter_eq_self.2 fun x h=>by rw[hx x h];rfl⟩
theorem Qv {R:List Nat}:hkeep R []=[]:=rfl
theorem wK {R:List Nat} {k:Nat} {b:Option aI} {h:DH}:hkeep R ((k,b)::h)=if R.contains k=true then hkeep R h else(k,b)::hkeep R h:=by
 simp only[hkeep,List.filter_cons]
 by_cases hk:R.contains k=true<;>simp [hk]
theorem qC {R:List Nat}:hsel R []=[]:=rfl
theorem oG {R:List Nat} {k:Nat} {b:Option aI} {h:DH}:hsel R ((k,b)::h)=if R.contains k=true then(k,b)::hsel R h else hsel R h:=by
 simp only[hsel,List.filter_cons]
theorem Qw {R:List Nat} {a b:DH}:hkeep R (a++b)=hkeep R a++hkeep R b:=List.filter_append ..
theorem qE {R:List Nat} {a b:DH}:hsel R (a++b)=hsel R a++hsel R b:=List.filter_append ..
theorem xW {a b k:Nat}:[a,b].contains k=(decide (k=a)||decide (k=b)):=by simp [List.contains_cons]
theorem xX {a k:Nat}:[a].contains k=decide (k=a):=by simp [List.contains_cons]
theorem Uu {k:Nat} {v:Option aI}: ∀ {a b:DH},fO a k=true->lJ (a++b) k v=lJ a k v++b
 |[],b,h=>by cases h
 | (q,x)::a,b,h=>by
  simp only[fO] at h
  simp only[List.cons_append,lJ]
  split
  ·rfl
  ·rename_i hne
   rw[if_neg hne] at h
   rw[Uu h];rfl
theorem aB9 {k:Nat} {b:aI}: ∀ {Z:List (Nat×aI)},(hget Z k).isSome=true->lJ (iU Z) k (some b)=iU (hset Z k b)
 |[],h=>by cases h
 | (q,x)::Z,h=>by
  simp only[hget] at h
  simp only[iU,List.map_cons,lJ,hset]
  split
  ·rename_i e;subst e;rfl
  ·rename_i hne
   rw[if_neg hne] at h
   have:=aB9 (b:=b) h
   simp only[iU] at this
   rw[this];rfl
theorem Jw {a b:List (Nat×aI)}:iU (a++b)=iU a++iU b:=List.map_append
theorem Nz: ∀(ps:List Pa) (i j:Nat) (hi:i<ps.length),i<j->eQ Φ ps i+cnt Φ ps[i].cells<=eQ Φ ps j
 |[],i,j,hi,h=>by simp at hi
 |p::ps,i,0,hi,h=>by omega
 |p::ps,0,j+1,hi,h=>by
  simp only[eQ,List.take_zero,fM,List.take_succ_cons,List.getElem_cons_zero];omega
 |p::ps,i+1,j+1,hi,h=>by
  have:=Nz ps i j (by simpa using hi) (by omega)
  rw[Cf,Cf,List.getElem_cons_succ];omega
theorem Dq {α:Type} {l:List α} {b:Nat} (h:b<l.length):l=l.take b++l[b]::l.drop (b+1):=by
 rw[<-List.drop_eq_getElem_cons h,List.take_append_drop]
theorem aUl {α:Type} {l:List α} {b:Nat} {x:α} (h:b<l.length):l.set b x=l.take b++x::l.drop (b+1):=by rw[List.set_eq_take_append_cons_drop,if_pos h]
theorem aJi {T:List (Nat×aI)} {hp:Hp} {R D:Nat} {ps:List Pa} (t:rD Φ (hget T) R D ps) (hD:1000<=D) (hR:R+2*ps.length<=1000) (j b:Nat) (hj:j<ps.length) (hb:b<ps[j].cells.length) (c':List Vo) (a:AV) (p':Pa) (hp':p'= {ps[j] with cells:=ps[j].cells.set b c'}) (ha:AV.nowS vC hp 3 a=bU c')
  (hrow:hp (R+2*j)=some (.cells (List.take b (eH Φ (D+eQ Φ ps j) ps[j].cells)++a::List.drop (b+1) (eH Φ (D+eQ Φ ps j) ps[j].cells))))
  (hm: ∀k blk,hget T k=some blk->k≠R+2*j-> ¬(D+eQ Φ ps j+cnt Φ (ps[j].cells.take b)<=k/\k<D+eQ Φ ps j+cnt Φ (ps[j].cells.take b)+Φ.sz (ps[j].cells[b]))->hp k=some blk):
  ∀i (hi:i< (ps.set j p').length),Zh hp (R+2*i) (R+2*i+1) (ps.set j p')[i]:=by
 subst hp'
 have hcnt:cnt Φ ps[j].cells=cnt Φ (ps[j].cells.take b)+Φ.sz ps[j].cells[b]+cnt Φ (ps[j].cells.drop (b+1)):=by
  conv=>lhs;rw[Dq hb,Gq]
  simp only[cnt];omega
 refine aSm ?_ fun i hi hij=>t.paX hD i hi fun k blk hk hk'=>hm k blk hk' ?_ ?_
 ·have hdp:=wE D ps j hj t.dp
  rw[Dq hb,aBw] at hdp
  simp only[csB] at hdp
  have hl:=hdp.left
  have hr:=hdp.right.right
  rw[kN] at hr
  rw[Φ.len] at hr
  have hcut:eH Φ (D+eQ Φ ps j) ps[j].cells=eH Φ (D+eQ Φ ps j) (ps[j].cells.take b)++Φ.cell (D+eQ Φ ps j+cnt Φ (ps[j].cells.take b)) ps[j].cells[b]::eH Φ (D+eQ Φ ps j+cnt Φ (ps[j].cells.take b)+Φ.sz ps[j].cells[b]) (ps[j].cells.drop (b+1)):=by
   conv=>lhs;rw[Dq hb,Ua]
   rfl
  have hlb:(eH Φ (D+eQ Φ ps j) (ps[j].cells.take b)).length=b:=by rw[uI,List.length_take];omega
  have e1:List.take b (eH Φ (D+eQ Φ ps j) ps[j].cells)=eH Φ (D+eQ Φ ps j) (ps[j].cells.take b):=by rw[hcut,List.take_left' hlb]
  have e2:List.drop (b+1) (eH Φ (D+eQ Φ ps j) ps[j].cells)=eH Φ (D+eQ Φ ps j+cnt Φ (ps[j].cells.take b)+Φ.sz ps[j].cells[b]) (ps[j].cells.drop (b+1)):=by
   rw[hcut,<-List.drop_drop,List.drop_left' hlb];rfl
  rw[e1,e2] at hrow
  have mono: ∀K l,jK (hget T) K l->1000<=K->(K+l.length<=D+eQ Φ ps j+cnt Φ (ps[j].cells.take b)\/D+eQ Φ ps j+cnt Φ (ps[j].cells.take b)+Φ.sz ps[j].cells[b]<=K)->jK hp K l:=fun K l h hK ho q hq=>hm _ _ (h q hq) (by omega) (by omega)
  refine⟨_,_,hrow,?_,hm _ _ (t.dyn j hj) (by omega) (by omega),?_⟩
  ·rw[List.map_append,List.map_cons,ha,zF (d:=1) _ _ (by omega) (mono _ _ hl (by omega) (.inl (by rw[kN];omega))),zF (d:=1) _ _ (by omega) (mono _ _ hr (by omega) (.inr (Nat.le_refl _))),aUl hb,List.map_append,List.map_cons]
  ·rw[lV (c:=fP) (fun _=>rfl)]
   exact nZ (c:=eP) _
 ·rcases hk with h|h|h<;>omega
 ·rcases Nat.lt_or_gt_of_ne hij with h|h
  ·have:=Nz (Φ:=Φ) ps i j hi h
   omega
  ·have:=Nz (Φ:=Φ) ps j i hj h
   omega
def pM (s:Sc) (j b v:Nat) (x:Vo):Sc:= {s with parts:=s.parts.set j {s.parts.getD j pa0 with cells:=(s.parts.getD j pa0).cells.set b (insL ((s.parts.getD j pa0).cells.getD b []) [x] v)}}
def Oa (j b v:Nat):aH:=⟨7,j,b,v,0,0,[],[],[],[],0,0,⟨#[]⟩⟩
theorem aGo (s:Sc) (o:aH) (hk:o.kind=6) (hs:s.small) (hg:s.goodU fU) (j b v:Nat) (hj:j<s.parts.length) (hb:b<s.bars.length) (hoj:o.part=(j:Nat)) (hob:o.bar=(b:Nat)) (hov:o.voice=(v:Nat)) (hc1:s.parts[j].cells.length=s.bars.length) (c:List Vo) (hc:s.parts[j].cells[b]'(by omega)=c) (hv:v<=c.length) (hcl:c.length<=800) (x:Vo) (hx:o.cells=[[[x]]]) (hxl:x.small) (hxs:x.short) {F:Fence} (hF:Free F) (hro:F.round=none) {W:World}:aP F Tryz.prog gl W 25 [.ptr 2000024 0] (MK s o (fun r=>r=uY (pM s j b v x) (Oa j b v).av)) ⟨iD fU s o,2000068⟩:=by
 have hT:=sW s hg
 have hA:=yQ s hg
 have hcx:=Eb [x] ⟨by simp,by intro y hy;simp only[List.mem_singleton] at hy;subst hy;exact hxs⟩
 simp only[List.length_cons,List.length_nil,Nat.zero_add,dY,bJ,List.flatMap_cons,List.flatMap_nil,fC,List.append_nil,List.map_cons,List.map_nil] at hcx
 rw[iD]
 generalize lW fU s=T at hT hA ⊢
 have hnp:=hg.hi
 have hrow:=hA.row j hj
 have hbc:b<s.parts[j].cells.length:=by omega
 obtain⟨K,hK⟩: ∃K,22+2*j=K:=⟨_,rfl⟩
 obtain⟨K3,hK3⟩: ∃K,1020+eQ fU s.parts j+cnt fU (s.parts[j].cells.take b)=K:=⟨_,rfl⟩
 have h3:=(Ny _ _ b hbc (wE 1020 s.parts j hj hA.dp)).head
 have hra:=Ij (Φ:=fU) (fun _ _=>rfl) (1020+eQ fU s.parts j) s.parts[j].cells b hbc
 rw[hK3,hc] at h3 hra
 have hrl:(eH fU (1020+eQ fU s.parts j) s.parts[j].cells).length=s.bars.length:=by rw[uI,hc1]
 have hm3:=hT.mem h3
 obtain⟨ROW,hROW⟩: ∃R,eH fU (1020+eQ fU s.parts j) s.parts[j].cells=R:=⟨_,rfl⟩
 rw[hROW] at hrow hra hrl
 have hrd:=Qu s o j b hj hb hoj hob hc1 K hK hnp ROW
 rw[hK] at hrow
 have hT':iJ 22 1000000 (hdel T K3):=hT.del
 have h3n:hget (hdel T K3) K3=none:=by rw[iT,if_pos rfl]
 have hrow':hget (hdel T K3) K=some (.cells ROW):=by rw[iT,if_neg (by omega)];exact hrow
 refine aP.pre (st':=⟨(2000024,.cells (.str s.title:: .msl 21 0 s.bars.length 14:: .msl 20 0 s.parts.length 5::(o.cells13++eG)))::(20,.cells (cZ 22 s.parts))::(21,.cells (s.bars.flatMap Ba.cells))::(eU s o++(K3,.cells (c.flatMap fC))::hdel T K3),2000068⟩) ⟨Nat.le_refl _,?_⟩ ?_
 ·simp only[St.hp,eU,List.cons_append,List.nil_append]
  refine aB (by simp [hget]) (aB (by simp [hget]) (aB (by simp [hget]) (aB (by simp [hget]) (aB (by simp [hget]) (aB (by simp [hget]) (aB (by simp [hget]) (aB (by simp [hget]) (aB ?_ fun k b h=>?_))))))))
  ·repeat rw[bD (by omega)]
   exact h3
  ·have hmm:=hT'.mem h
   rw[iT] at h
   split at h
   ·cases h
   ·repeat rw[bD (by omega)]
    exact h
 rw[eU,eG]
 obtain⟨T',hT'x⟩: ∃T',hdel T K3=T':=⟨_,rfl⟩
 rw[hT'x] at hT' h3n hrow' ⊢
 have hT'e:PLift (hdel T K3=T'):=⟨hT'x⟩
 clear hT'x
 have p1: ∀n,n<22->(n=K)=False:=fun n h=>eq_false (by omega)
 have p2: ∀n,1000<=n->(n=K)=False:=fun n h=>eq_false (by omega)
 have n1: ∀n,n<22->(K=n)=False:=fun n h=>eq_false (by omega)
 have n2: ∀n,1000<=n->(K=n)=False:=fun n h=>eq_false (by omega)
 have n3: ∀n,n<22->(K3=n)=False:=fun n h=>eq_false (by omega)
 have n4: ∀n,1000000<=n->(K3=n)=False:=fun n h=>eq_false (by omega)
 have n5:(K=K3)=False:=eq_false (by omega)
 have n6:(K3=K)=False:=eq_false (by omega)
 have n7: ∀n,n<22->(n=K3)=False:=fun n h=>eq_false (by omega)
 have n8: ∀n,1000000<=n->(n=K3)=False:=fun n h=>eq_false (by omega)
 have hKb:K<=1000:=by omega
 have bK:PLift (22+2*j=K):=⟨hK⟩
 have bK3:PLift (1020+eQ fU s.parts j+cnt fU (s.parts[j].cells.take b)=K3):=⟨hK3⟩
 have bR:PLift (eH fU (1020+eQ fU s.parts j) s.parts[j].cells=ROW):=⟨hROW⟩
 clear hK hK3 hROW
 have hdT: ∀n,1000000<=n->hdel T' n=T':=fun n h=>gY (hT'.hi n h)
 have k1:b<=s.bars.length:=by omega
 have k2:1<=s.bars.length - b:=by omega
 have k3:b+1<=s.bars.length:=by omega
 have k4:((v:Nat):Int)< ((c.length:Nat):Int)+1:=by omega
 have hw:IntKind.i64.wrap (((c.length:Nat):Int)+1)=((c.length:Nat):Int)+1:=wrap_in (by omega)
 have ho1: ∀r,1000000<=r->hsel [K3,r] (iU T')=[]:=fun r hr=>(pK fun k hk=>by
  simp only[xW,Bool.or_eq_true,decide_eq_true_eq] at hk
  rcases hk with rfl|rfl
  ·exact h3n
  ·exact hT'.hi _ hr).1
 have ho2: ∀r,1000000<=r->hkeep [K3,r] (iU T')=iU T':=fun r hr=>(pK fun k hk=>by
  simp only[xW,Bool.or_eq_true,decide_eq_true_eq] at hk
  rcases hk with rfl|rfl
  ·exact h3n
  ·exact hT'.hi _ hr).2
 (refine aP.introZ hF hro 3 mix names (fn:=Tryz.f25) Tryz.func25 rfl ?_;simp only[Tryz.ntmps25,Tryz.results25,aJ,Nat.reduceAdd,Nat.reduceSub])
 repeat' (first
  |simp -implicitDefEqProofs (maxSteps:=9999999) only[↓reduceIte,aA,aC,facts,Nat.reduceAdd,Nat.reduceEqDiff,Nat.reduceLT,Nat.reduceLeDiff,Int.reduceLE,Int.reduceBNe,List.flatMap_cons,List.flatMap_nil,AV.cells,AV.one,aH.cells13,hx,hov,hob,hoj,dM,bU,fV,eF,jF,kG,List.length_drop,nC,aUi,eX,fH,aK,aN,nG,Io,yX,Uu,aB9,List.append_assoc,Option.isSome_some,wK,Qv,Qw,xW,bF,aU,aV,dB,aW, *]
  |((with_reducible refine dG 48 ?_);refine bW (iF _ _ (by omega)) (rfl) ?_)
  |((with_reducible refine dG 41 ?_);refine kR hF hro hcx (rfl) ?_)
  |((with_reducible refine dG 47 ?_);refine gV [2000024,20,K] _ hrd (rQ (by simp [bY,aH.cells13,eG,hoj,hob,hov,hx,hk,dM,bU]) (by simp [bY]) (by simp [bY,n1,n2,n5,jF,hrow'])) ?_)
  |((with_reducible refine dG 64 ?_);refine kK [K3,2000152] (st0:=⟨[(K3,.cells (c.flatMap fC)),(2000152,.cells ([x].flatMap fC))],2000172⟩) (by simp [oG,qE,qC,xW,n3,n4,n5,n6,n7,n8,ho1,jA,fC]) (aUj hF hro c [x] v hv (by simp only[List.length_cons,List.length_nil];omega) 0 rfl (q:=K3) (r:=2000152) (nx:=2000172) (by omega)) (by simp) (by simp only[Nat.reduceLeDiff]) ?_)
  |((with_reducible refine aO ?_);refine bM (by decide+kernel) ?_)
  |((with_reducible refine dP ?_ ?_);· (refine nP (fun n=>if n=K then 1500000 else if n=K3 then 1500001 else n) (xG (by omega) (by omega)) ?_;simp only[List.map_cons,List.map_nil,LE.ren,n1,n2,n3,n4,n5,n6,n7,n8,p1,p2,Nat.reduceLT,Nat.reduceLeDiff,↓reduceIte];kernel_rfl)))
 have hKe:=bK.down
 have hK3e:=bK3.down
 have hRe:=bR.down
 obtain⟨p,hpe⟩: ∃p,s.parts[j]=p:=⟨_,rfl⟩
 have hgd:s.parts.getD j pa0=p:=(uF hj).trans hpe
 have hps:p.small:=by rw[<-hpe];exact hs.parts _ (List.getElem_mem hj)
 obtain⟨p',hp'⟩: ∃p':Pa,{p with cells:=p.cells.set b (insL c [x] v)}=p':=⟨_,rfl⟩
 have hce:p.cells.getD b []=c:=by rw[<-hc];simp only[hpe];exact uF (by rw[hpe] at hbc;exact hbc)
 have hs'e:pM s j b v x= {s with parts:=s.parts.set j p'}:=by rw[pM,hgd,hce,hp']
 rw[show(Oa j b v).av=AV.agg (.int .i64 (if(7:Int)=0 then o.kind else 7)::[.int .i64 (j:Nat),.int .i64 (b:Nat),.int .i64 (v:Nat),.int .i64 0,.int .i64 0,.sl 9 [] .none,.sl 14 [] .none,.sl 1 [] .none,.sl 1 [] .none,.int .i64 0,.int .i64 0,.str ⟨#[]⟩]) from by rw[if_neg (by decide)];rfl,hs'e]
 have hpt:cZ 22 (s.parts.set j p')=cZ 22 s.parts:=zN 22 s.parts j p' hj (by rw[<-hp',hpe]) (by rw[<-hp',hpe]) (by rw[<-hp',hpe]) (by rw[<-hp',hpe];exact List.length_set) (by rw[<-hp',hpe])
 obtain⟨R',hR'⟩: ∃R',(List.take b ROW++AV.msl 2000172 0 (insL c [x] v).length 1::List.drop (b+1) ROW)=R':=⟨_,rfl⟩
 rw[hR']
 obtain⟨Z,hZ⟩: ∃Z,(2000172,aI.cells (List.flatMap fC (insL c [x] v)))::hset T' K (.cells R')=Z:=⟨_,rfl⟩
 have hZg: ∀k,hget Z k=if k=2000172 then some (.cells (List.flatMap fC (insL c [x] v))) else if k=K then some (.cells R') else hget T' k:=fun k=>by
  rw[<-hZ]
  simp only[hget,vK]
 have hZm: ∀k b',hget Z k=some b'->22<=k/\k≠2000024/\k<9000000/\k≠2000148/\k≠2000149/\(1000000<=k->k=2000172):=fun k b' h=>by
  rw[hZg] at h
  split at h
  ·omega
  ·split at h
   ·omega
   ·have:=hT'.mem h
    omega
 refine⟨0,rfl,.inr ⟨rfl,.str s.title,.msl 21 0 s.bars.length 14,.msl 20 0 (s.parts.set j p').length 5,7,.int .i64 (j:Nat),.int .i64 (b:Nat),.int .i64 (v:Nat),.int .i64 0,.int .i64 0,.sl 9 [] .full,.sl 14 [] .full,.sl 1 [] .full,.sl 1 [] .full,.int .i64 0,.int .i64 0,.str ⟨#[]⟩,(20,.cells (cZ 22 (s.parts.set j p')))::(21,.cells (s.bars.flatMap Ba.cells))::Z,⟨by simp only[Nat.reduceLeDiff],?_⟩,
  Ya (s':= {s with parts:=s.parts.set j p'}) (T:=Z) (fun k b h=>by have:=hZm k b h;omega) (by rw[List.length_set];exact hg.hi) (fun hp h=>⟨?_,rfl⟩) (Ko hs ⟨?_,?_⟩) (by simp [AV.one])⟩⟩
 ·rw[hpt]
  have hcl13:o.cells13=[.int .i64 6,.int .i64 (j:Nat),.int .i64 (b:Nat),.int .i64 (v:Nat),.int .i64 o.at_,.int .i64 o.count,.sl 9 (o.events.map Ev.av) .none,.sl 14 (o.bars.map Ba.av) .none,.sl 1 [.sl 1 [.sl 1 [x.av] .none] .none] .none,.sl 1 (o.dyns.map dV) .none,.int .i64 o.steps,.int .i64 o.halves,.str o.text]:=by rw[aH.cells13,hk,hoj,hob,hov,hx];rfl
  simp only[St.hp,eU,eG,hcl13,List.length_set,List.cons_append,List.nil_append]
  refine aB (by simp [hget]) (aB (by simp [hget]) (aB (by simp [hget]) (aB (by simp [hget]) (aB (by simp [hget]) (aB (by simp [hget]) (aB (by simp [hget]) (aB (by simp [hget]) fun k b' h=>?_)))))))
  have hz:=hZm k b' h
  repeat rw[bD (by omega)]
  rw[iT,if_neg (by omega),iT,if_neg (by omega),wB,bV,vK]
  rw[hZg] at h
  have hx9:jA [(2000168,none),(2000169,none),(2000188,none),(2000189,none),(2000172,some (aI.cells (List.flatMap fC (insL c [x] v))))]=[(2000172,aI.cells (List.flatMap fC (insL c [x] v)))]:=by simp [jA,hdel]
  rw[hx9]
  by_cases e1:k=2000172
  ·rw[if_pos e1] at h
   rw[if_neg (by omega),hT'.hi k (by omega)]
   simp only[hget,if_pos e1];exact h
  ·rw[if_neg e1] at h
   by_cases e2:k=K
   ·rw[if_pos e2] at h ⊢;exact h
   ·rw[if_neg e2] at h ⊢
    rw[h]
 ·refine aJi hA (by omega) (by omega) j b hj hbc (insL c [x] v) (.msl 2000172 0 (insL c [x] v).length 1) p' (by rw[<-hp',hpe]) ?_ ?_ fun k blk hk1 hk2 hk3=>?_
  ·refine Px (d:=2) _ (h 2000172 _ (by rw[hZg,if_pos rfl])) (by omega) ?_ rfl
   rw[lV (c:=fC) (fun _=>rfl)]
   exact nZ (c:=fun v:Vo=>AV.sl 9 (v.l.map Ev.av) .none) _
  ·rw[hKe,hRe,hR']
   exact h K _ (by rw[hZg,if_neg (by omega),if_pos rfl])
  ·have hm1:=hT.mem hk1
   refine h k blk ?_
   rw[hZg,if_neg (by omega),if_neg (by omega),<-hT'e.down,iT,if_neg ?_]
   ·exact hk1
   ·rintro rfl
    exact hk3 ⟨by omega,by rw[hK3e];exact Nat.lt_succ_self _⟩
 ·rw[<-hp']
  intro q hq
  rcases List.mem_or_eq_of_mem_set hq with h|h
  ·exact hps.voices q h
  ·subst h
   have hcm:c∈p.cells:=by rw[<-hc];simp only[hpe];exact List.getElem_mem _
   refine⟨by rw[rU hv];simp;omega,fun w hw=>?_⟩
   simp only[insL,List.mem_append,List.mem_singleton] at hw
   rcases hw with(h|h)|h
   ·exact(hps.voices c hcm).2 w (List.mem_of_mem_take h)
   ·subst h;exact hxl
   ·exact(hps.voices c hcm).2 w (List.mem_of_mem_drop h)
 ·rw[<-hp'];exact hps.dyns
end Go.Proofs.Pv
namespace Go.Proofs.Pv
open Go Go.Proofs
def nK (s:Sc) (j b v:Nat):Sc:= {s with parts:=s.parts.set j {s.parts.getD j pa0 with cells:=(s.parts.getD j pa0).cells.set b (gJ ((s.parts.getD j pa0).cells.getD b []) v 1)}}
def Kz (j b v:Nat) (x:Vo):aH:=⟨6,j,b,v,0,0,[],[],[[[x]]],[],0,0,⟨#[]⟩⟩
theorem aD1 (s:Sc) (o:aH) (hk:o.kind=7) (hs:s.small) (hg:s.goodU fU) (j b v:Nat) (hj:j<s.parts.length) (hb:b<s.bars.length) (hoj:o.part=(j:Nat)) (hob:o.bar=(b:Nat)) (hov:o.voice=(v:Nat)) (hc1:s.parts[j].cells.length=s.bars.length) (c:List Vo) (hc:s.parts[j].cells[b]'(by omega)=c) (hv:v<c.length) (hcl:c.length<=800) (x:Vo) (hx:c[v]=x) {F:Fence} (hF:Free F) (hro:F.round=none) {W:World}:aP F Tryz.prog gl W 26 [.ptr 2000024 0] (MK s o (fun r=>r=uY (nK s j b v) (Kz j b v x).av)) ⟨iD fU s o,2000068⟩:=by
 have hT:=sW s hg
 have hA:=yQ s hg
 rw[iD]
 generalize lW fU s=T at hT hA ⊢
 have hnp:=hg.hi
 have hrow:=hA.row j hj
 have hbc:b<s.parts[j].cells.length:=by omega
 obtain⟨K,hK⟩: ∃K,22+2*j=K:=⟨_,rfl⟩
 obtain⟨K3,hK3⟩: ∃K,1020+eQ fU s.parts j+cnt fU (s.parts[j].cells.take b)=K:=⟨_,rfl⟩
 have h3:=(Ny _ _ b hbc (wE 1020 s.parts j hj hA.dp)).head
 have hra:=Ij (Φ:=fU) (fun _ _=>rfl) (1020+eQ fU s.parts j) s.parts[j].cells b hbc
 rw[hK3,hc] at h3 hra
 have hrl:(eH fU (1020+eQ fU s.parts j) s.parts[j].cells).length=s.bars.length:=by rw[uI,hc1]
 have hm3:=hT.mem h3
 obtain⟨ROW,hROW⟩: ∃R,eH fU (1020+eQ fU s.parts j) s.parts[j].cells=R:=⟨_,rfl⟩
 rw[hROW] at hrow hra hrl
 have hrd:=Qu s o j b hj hb hoj hob hc1 K hK hnp ROW
 rw[hK] at hrow
 have hT':iJ 22 1000000 (hdel T K3):=hT.del
 have h3n:hget (hdel T K3) K3=none:=by rw[iT,if_pos rfl]
 have hrow':hget (hdel T K3) K=some (.cells ROW):=by rw[iT,if_neg (by omega)];exact hrow
 refine aP.pre (st':=⟨(2000024,.cells (.str s.title:: .msl 21 0 s.bars.length 14:: .msl 20 0 s.parts.length 5::(o.cells13++eG)))::(20,.cells (cZ 22 s.parts))::(21,.cells (s.bars.flatMap Ba.cells))::(eU s o++(K3,.cells (c.flatMap fC))::hdel T K3),2000068⟩) ⟨Nat.le_refl _,?_⟩ ?_
 ·simp only[St.hp,eU,List.cons_append,List.nil_append]
  refine aB (by simp [hget]) (aB (by simp [hget]) (aB (by simp [hget]) (aB (by simp [hget]) (aB (by simp [hget]) (aB (by simp [hget]) (aB (by simp [hget]) (aB (by simp [hget]) (aB ?_ fun k b h=>?_))))))))
  ·repeat rw[bD (by omega)]
   exact h3
  ·have hmm:=hT'.mem h
   rw[iT] at h
   split at h
   ·cases h
   ·repeat rw[bD (by omega)]
    exact h
 rw[eU,eG]
 obtain⟨T',hT'x⟩: ∃T',hdel T K3=T':=⟨_,rfl⟩
 rw[hT'x] at hT' h3n hrow' ⊢
 have hT'e:PLift (hdel T K3=T'):=⟨hT'x⟩
 clear hT'x
 have p1: ∀n,n<22->(n=K)=False:=fun n h=>eq_false (by omega)
 have p2: ∀n,1000<=n->(n=K)=False:=fun n h=>eq_false (by omega)
 have n1: ∀n,n<22->(K=n)=False:=fun n h=>eq_false (by omega)
 have n2: ∀n,1000<=n->(K=n)=False:=fun n h=>eq_false (by omega)
 have n3: ∀n,n<22->(K3=n)=False:=fun n h=>eq_false (by omega)
 have n4: ∀n,1000000<=n->(K3=n)=False:=fun n h=>eq_false (by omega)
 have n5:(K=K3)=False:=eq_false (by omega)
 have n6:(K3=K)=False:=eq_false (by omega)
 have n7: ∀n,n<22->(n=K3)=False:=fun n h=>eq_false (by omega)
 have n8: ∀n,1000000<=n->(n=K3)=False:=fun n h=>eq_false (by omega)
 have hKb:K<=1000:=by omega
 have bK:PLift (22+2*j=K):=⟨hK⟩
 have bK3:PLift (1020+eQ fU s.parts j+cnt fU (s.parts[j].cells.take b)=K3):=⟨hK3⟩
 have bR:PLift (eH fU (1020+eQ fU s.parts j) s.parts[j].cells=ROW):=⟨hROW⟩
 clear hK hK3 hROW
 have hdT: ∀n,1000000<=n->hdel T' n=T':=fun n h=>gY (hT'.hi n h)
 have k1:b<=s.bars.length:=by omega
 have k2:1<=s.bars.length - b:=by omega
 have k3:b+1<=s.bars.length:=by omega
 have k4:((v:Nat):Int)< ((c.length:Nat):Int):=by omega
 have hw:IntKind.i64.wrap (((v:Nat):Int)+1)=((v+1:Nat):Int):=by rw[wrap_in (by omega)];rfl
 have k5:v<=c.length:=by omega
 have k6:1<=c.length - v:=by omega
 have hcv:(c.flatMap fC).length=c.length:=yS c
 have hdv:List.take 1 (List.drop v (c.flatMap fC))=[.sl 9 (x.l.map Ev.av) .none]:=by
  have:=Ob (c:=fC) (k:=1) (fun _=>rfl) c v hv
  rw[Nat.mul_one] at this
  rw[this,hx];rfl
 have ho1:hsel [K3] (iU T')=[]:=(pK fun k hk=>by
  simp only[xX,decide_eq_true_eq] at hk
  subst hk
  exact h3n).1
 have ho2:hkeep [K3] (iU T')=iU T':=(pK fun k hk=>by
  simp only[xX,decide_eq_true_eq] at hk
  subst hk
  exact h3n).2
 (refine aP.introZ hF hro 3 mix names (fn:=Tryz.f26) Tryz.func26 rfl ?_;simp only[Tryz.ntmps26,Tryz.results26,aJ,Nat.reduceAdd,Nat.reduceSub])
 repeat' (first
  |simp -implicitDefEqProofs (maxSteps:=9999999) only[↓reduceIte,aA,aC,facts,Nat.reduceAdd,Nat.reduceEqDiff,Nat.reduceLT,Nat.reduceLeDiff,List.flatMap_cons,List.flatMap_nil,AV.cells,AV.one,aH.cells13,hov,hob,hoj,fV,eF,jF,kG,List.length_drop,Int.natCast_nonneg,nG,Io,yX,Uu,aB9,List.append_assoc,Option.isSome_some,wK,xX,bF,aU,aV,dB,aW, *]
  |((with_reducible refine dG 48 ?_);refine bW (iF _ _ (by omega)) (rfl) ?_)
  |((with_reducible refine dG 47 ?_);refine gV [2000024,20,K] _ hrd (rQ (by simp [bY,aH.cells13,eG,hoj,hob,hov,hk,dM,bU]) (by simp [bY]) (by simp [bY,n1,n2,n5,jF,hrow'])) ?_)
  |((with_reducible refine dG 65 ?_);refine kK [K3] (st0:=⟨[(K3,.cells (c.flatMap fC))],2000121⟩) (by simp [oG,qE,qC,xX,n3,n4,n5,n6,n7,n8,ho1,jA,fC]) (aUk hF hro c v 1 (by omega) (by omega) (q:=K3) (nx:=2000121)) (by simp) (by simp only[Nat.reduceLeDiff]) ?_)
  |((with_reducible refine aO ?_);refine bM (by decide+kernel) ?_)
  |((with_reducible refine dP ?_ ?_);· (refine nP (fun n=>if n=K then 1500000 else if n=K3 then 1500001 else n) (xG (by omega) (by omega)) ?_;simp only[List.map_cons,List.map_nil,LE.ren,n1,n2,n3,n4,n5,n6,n7,n8,p1,p2,Nat.reduceLT,Nat.reduceLeDiff,↓reduceIte];kernel_rfl)))
 have hKe:=bK.down
 have hK3e:=bK3.down
 have hRe:=bR.down
 obtain⟨p,hpe⟩: ∃p,s.parts[j]=p:=⟨_,rfl⟩
 have hgd:s.parts.getD j pa0=p:=(uF hj).trans hpe
 have hps:p.small:=by rw[<-hpe];exact hs.parts _ (List.getElem_mem hj)
 obtain⟨p',hp'⟩: ∃p':Pa,{p with cells:=p.cells.set b (gJ c v 1)}=p':=⟨_,rfl⟩
 have hce:p.cells.getD b []=c:=by rw[<-hc];simp only[hpe];exact uF (by rw[hpe] at hbc;exact hbc)
 have hs'e:nK s j b v= {s with parts:=s.parts.set j p'}:=by rw[nK,hgd,hce,hp']
 rw[show(Kz j b v x).av=AV.agg (.int .i64 (if(6:Int)=0 then o.kind else 6)::[.int .i64 (j:Nat),.int .i64 (b:Nat),.int .i64 (v:Nat),.int .i64 0,.int .i64 0,.sl 9 [] .none,.sl 14 [] .none,.sl 1 [.sl 1 [.sl 1 [x.av] .none] .none] .none,.sl 1 [] .none,.int .i64 0,.int .i64 0,.str ⟨#[]⟩]) from by rw[if_neg (by decide)];rfl,hs'e]
 have hpt:cZ 22 (s.parts.set j p')=cZ 22 s.parts:=zN 22 s.parts j p' hj (by rw[<-hp',hpe]) (by rw[<-hp',hpe]) (by rw[<-hp',hpe]) (by rw[<-hp',hpe];exact List.length_set) (by rw[<-hp',hpe])
 obtain⟨R',hR'⟩: ∃R',(List.take b ROW++AV.msl 2000121 0 (gJ c v 1).length 1::List.drop (b+1) ROW)=R':=⟨_,rfl⟩
 rw[hR']
 obtain⟨Z,hZ⟩: ∃Z,(2000121,aI.cells (List.flatMap fC (gJ c v 1)))::hset T' K (.cells R')=Z:=⟨_,rfl⟩
 have hZg: ∀k,hget Z k=if k=2000121 then some (.cells (List.flatMap fC (gJ c v 1))) else if k=K then some (.cells R') else hget T' k:=fun k=>by
  rw[<-hZ]
  simp only[hget,vK]
 have hZm: ∀k b',hget Z k=some b'->22<=k/\k≠2000024/\k<9000000/\k≠2000118/\(1000000<=k->k=2000121):=fun k b' h=>by
  rw[hZg] at h
  split at h
  ·omega
  ·split at h
   ·omega
   ·have:=hT'.mem h
    omega
 refine⟨0,rfl,.inr ⟨rfl,.str s.title,.msl 21 0 s.bars.length 14,.msl 20 0 (s.parts.set j p').length 5,6,.int .i64 (j:Nat),.int .i64 (b:Nat),.int .i64 (v:Nat),.int .i64 0,.int .i64 0,.sl 9 [] .full,.sl 14 [] .full,.sl 1 [.sl 1 [.sl 1 [.agg [.sl 9 (x.l.map Ev.av) .none]] .none] .none] .full,.sl 1 [] .full,.int .i64 0,.int .i64 0,.str ⟨#[]⟩,(20,.cells (cZ 22 (s.parts.set j p')))::(21,.cells (s.bars.flatMap Ba.cells))::Z,⟨by simp only[Nat.reduceLeDiff],?_⟩,
  Ya (s':= {s with parts:=s.parts.set j p'}) (T:=Z) (fun k b h=>by have:=hZm k b h;omega) (by rw[List.length_set];exact hg.hi) (fun hp h=>⟨?_,rfl⟩) (Ko hs ⟨?_,?_⟩) (by simp [AV.one])⟩⟩
 ·rw[hpt]
  have hcl13:o.cells13=[.int .i64 7,.int .i64 (j:Nat),.int .i64 (b:Nat),.int .i64 (v:Nat),.int .i64 o.at_,.int .i64 o.count,.sl 9 (o.events.map Ev.av) .none,.sl 14 (o.bars.map Ba.av) .none,.sl 1 (o.cells.map dM) .none,.sl 1 (o.dyns.map dV) .none,.int .i64 o.steps,.int .i64 o.halves,.str o.text]:=by rw[aH.cells13,hk,hoj,hob,hov]
  simp only[St.hp,eU,eG,hcl13,List.length_set,List.cons_append,List.nil_append]
  refine aB (by simp [hget]) (aB (by simp [hget]) (aB (by simp [hget]) (aB (by simp [hget]) (aB (by simp [hget]) (aB (by simp [hget]) (aB (by simp [hget]) (aB (by simp [hget]) fun k b' h=>?_)))))))
  have hz:=hZm k b' h
  repeat rw[bD (by omega)]
  rw[iT,if_neg (by omega),wB,bV,vK]
  rw[hZg] at h
  have hx9:jA [(2000131,none),(2000121,some (aI.cells (List.flatMap fC (gJ c v 1))))]=[(2000121,aI.cells (List.flatMap fC (gJ c v 1)))]:=by simp [jA,hdel]
  rw[hx9]
  by_cases e1:k=2000121
  ·rw[if_pos e1] at h
   rw[if_neg (by omega),hT'.hi k (by omega)]
   simp only[hget,if_pos e1];exact h
  ·rw[if_neg e1] at h
   by_cases e2:k=K
   ·rw[if_pos e2] at h ⊢;exact h
   ·rw[if_neg e2] at h ⊢
    rw[h]
 ·refine aJi hA (by omega) (by omega) j b hj hbc (gJ c v 1) (.msl 2000121 0 (gJ c v 1).length 1) p' (by rw[<-hp',hpe]) ?_ ?_ fun k blk hk1 hk2 hk3=>?_
  ·refine Px (d:=2) _ (h 2000121 _ (by rw[hZg,if_pos rfl])) (by omega) ?_ rfl
   rw[lV (c:=fC) (fun _=>rfl)]
   exact nZ (c:=fun v:Vo=>AV.sl 9 (v.l.map Ev.av) .none) _
  ·rw[hKe,hRe,hR']
   exact h K _ (by rw[hZg,if_neg (by omega),if_pos rfl])
  ·have hm1:=hT.mem hk1
   refine h k blk ?_
   rw[hZg,if_neg (by omega),if_neg (by omega),<-hT'e.down,iT,if_neg ?_]
   ·exact hk1
   ·rintro rfl
    exact hk3 ⟨by omega,by rw[hK3e];exact Nat.lt_succ_self _⟩
 ·rw[<-hp']
  intro q hq
  rcases List.mem_or_eq_of_mem_set hq with h|h
  ·exact hps.voices q h
  ·subst h
   have hcm:c∈p.cells:=by rw[<-hc];simp only[hpe];exact List.getElem_mem _
   refine⟨by rw[yN (by omega)];omega,fun w hw=>?_⟩
   simp only[gJ,List.mem_append] at hw
   rcases hw with h|h
   ·exact(hps.voices c hcm).2 w (List.mem_of_mem_take h)
   ·exact(hps.voices c hcm).2 w (List.mem_of_mem_drop h)
 ·rw[<-hp'];exact hps.dyns
def aEq (s:Sc) (o:aH):List (Nat×aI):=[(2000024,.cells (.str s.title:: .msl 21 0 s.bars.length 14:: .msl 20 0 s.parts.length 5::(o.cells13++eG))),(20,.cells (cZ 22 s.parts))]
theorem aDz {s:Sc} {o:aH} {h:DH} (h1:bY h 2000024=some (.cells (.str s.title:: .msl 21 0 s.bars.length 14:: .msl 20 0 s.parts.length 5::(o.cells13++eG)))) (h2:bY h 20=some (.cells (cZ 22 s.parts))): ∀k b,hget (aEq s o) k=some b->k∈[2000024,20]/\bY h k=some b:=by
 intro k b hk
 simp only[aEq,hget] at hk
 split at hk
 ·rename_i e;subst e;exact⟨by simp,by rw[h1];exact hk⟩
 ·split at hk
  ·rename_i e;subst e;exact⟨by simp,by rw[h2];exact hk⟩
  ·cases hk
theorem aD0 (s:Sc) (o:aH) (hno: ¬((0<=o.part/\o.part< (s.parts.length:Nat))/\(0<=o.bar/\o.bar< (s.bars.length:Nat)))):Rd Tryz.prog gl 47 [.ptr 2000024 0] (hget (aEq s o)) .nilp:=by
 refine Rd.introN 2 3000000 mix names (fn:=Tryz.f47) Tryz.func47 rfl (fun f hf=>rfl) fun nx hnx F hF hro W=>?_
 have m1: ∀k,(2000024=nx+k)=False:=fun k=>eq_false (by omega)
 have m2: ∀k,(20=nx+k)=False:=fun k=>eq_false (by omega)
 have m4: ∀k,(nx+k=2000024)=False:=fun k=>eq_false (by omega)
 have m5: ∀k,(nx+k=20)=False:=fun k=>eq_false (by omega)
 have q1:(2000024=nx)=False:=eq_false (by omega)
 have q2:(20=nx)=False:=eq_false (by omega)
 have q4:(nx=2000024)=False:=eq_false (by omega)
 have q5:(nx=20)=False:=eq_false (by omega)
 clear hnx
 simp only[Tryz.ntmps47,Tryz.results47,aJ,Nat.reduceAdd,Nat.reduceSub,aEq,eG]
 by_cases h1:0<=o.part/\o.part< (s.parts.length:Nat)
 ·have h2: ¬(0<=o.bar/\o.bar< (s.bars.length:Nat)):=fun h=>hno ⟨h1,h⟩
  repeat' (first
  |simp -implicitDefEqProofs (maxSteps:=9999999) only[↓reduceIte,aA,aC,facts,Nat.reduceAdd,Nat.reduceEqDiff,Nat.reduceLeDiff,List.flatMap_cons,List.flatMap_nil,AV.cells,AV.one,aH.cells13,Nat.add_assoc,Nat.add_left_cancel_iff,lL,bF,aU,aV,aW, *]
  |((with_reducible refine dG 48 ?_);refine bW (iF _ _ h1) (rfl) ?_)
  |((with_reducible refine dG 48 ?_);refine bW (tH _ _ h2) (rfl) ?_)
  |((with_reducible refine aO ?_);refine bM (by decide+kernel) ?_)
  |((with_reducible refine dP ?_ ?_);· kernel_rfl))
  exact aB (by simp only[hget,m1,q1,↓reduceIte]) (aB (by simp only[hget,m2,q2,Nat.reduceEqDiff,↓reduceIte]) fun k b h=>by cases h)
 ·repeat' (first
  |simp -implicitDefEqProofs (maxSteps:=9999999) only[↓reduceIte,aA,aC,facts,Nat.reduceAdd,Nat.reduceEqDiff,Nat.reduceLeDiff,List.flatMap_cons,List.flatMap_nil,AV.cells,Option.map_none,AV.one,aH.cells13,Nat.add_assoc,Nat.add_left_cancel_iff,lL,bF,aU,pG,aV,aW, *]
  |((with_reducible refine dG 48 ?_);refine bW (tH _ _ h1) (rfl) ?_)
  |((with_reducible refine aO ?_);refine bM (by decide+kernel) ?_)
  |((with_reducible refine dP ?_ ?_);· kernel_rfl))
  exact aB (by simp only[hget,m1,q1,↓reduceIte]) (aB (by simp only[hget,m2,q2,Nat.reduceEqDiff,↓reduceIte]) fun k b h=>by cases h)
theorem aH4 (s:Sc) (o:aH) (hk:o.kind=6) (hno: ¬((0<=o.part/\o.part< (s.parts.length:Nat))/\(0<=o.bar/\o.bar< (s.bars.length:Nat)))) {F:Fence} (hF:Free F) (hro:F.round=none) {W:World}:aP F Tryz.prog gl W 25 [.ptr 2000024 0] (MK s o (fun v=>v=errR 90)) ⟨iD fU s o,2000068⟩:=by
 rw[iD,eU,eG]
 generalize lW fU s=T
 have hrd:=aD0 s o hno
 have K:Nat:=0
 have K3:Nat:=0
 (refine aP.introZ hF hro 3 mix names (fn:=Tryz.f25) Tryz.func25 rfl ?_;simp only[Tryz.ntmps25,Tryz.results25,aJ,Nat.reduceAdd,Nat.reduceSub])
 repeat' (first
  |simp -implicitDefEqProofs (maxSteps:=9999999) only[↓reduceIte,aA,aC,facts,Nat.reduceAdd,Nat.reduceEqDiff,Nat.reduceLeDiff,List.flatMap_cons,List.flatMap_nil,AV.cells,Option.map_none,AV.one,aH.cells13,fV,eF,kG,bF,aU,pG,aV,dB,aW, *]
  |((with_reducible refine dG 47 ?_);refine gV [2000024,20] _ hrd (aDz (by simp [bY,aH.cells13,eG,hk]) (by simp [bY])) ?_)
  |((with_reducible refine aO ?_);refine bM (by decide+kernel) ?_)
  |((with_reducible refine dP ?_ ?_);· decide+kernel))
 (refine jL (by decide) (by simp only[Nat.reduceLeDiff]) rfl ?_;simp only[eU,eG,aH.cells13,hk];exact aB (by simp [hget]) (aB (by simp [hget]) (aB (by simp [hget]) (aB (by simp [hget]) (aB (by simp [hget]) fun k b h=>by cases h)))))
theorem aLw (s:Sc) (o:aH) (hk:o.kind=6) (hg:s.goodU fU) (j b:Nat) (hj:j<s.parts.length) (hb:b<s.bars.length) (hoj:o.part=(j:Nat)) (hob:o.bar=(b:Nat)) (hc1:s.parts[j].cells.length=s.bars.length) (c:List Vo) (hcc:s.parts[j].cells[b]'(by rw[hc1];exact hb)=c) (hcl:c.length<=800) (hno: ¬((0<=o.voice/\o.voice<=(c.length:Nat))/\ ∃x,o.cells=[[[x]]])) {F:Fence} (hF:Free F) (hro:F.round=none) {W:World}:aP F Tryz.prog gl W 25 [.ptr 2000024 0] (MK s o (fun v=>v=errR 90)) ⟨iD fU s o,2000068⟩:=by
  have hT:=sW s hg
  have hA:=yQ s hg
  rw[iD,eU,eG]
  generalize lW fU s=T at hT hA ⊢
  have hnp:=hg.hi
  have hrow:=hA.row j hj
  have hbc:b<s.parts[j].cells.length:=by omega
  obtain⟨K,hK⟩: ∃K,22+2*j=K:=⟨_,rfl⟩
  obtain⟨K3,hK3⟩: ∃K,1020+eQ fU s.parts j+cnt fU (s.parts[j].cells.take b)=K:=⟨_,rfl⟩
  have h3:=(Ny _ _ b hbc (wE 1020 s.parts j hj hA.dp)).head
  have hra:=Ij (Φ:=fU) (fun _ _=>rfl) (1020+eQ fU s.parts j) s.parts[j].cells b hbc
  rw[hK3] at h3 hra
  have hm3:=hT.mem h3
  have hrl:(eH fU (1020+eQ fU s.parts j) s.parts[j].cells).length=s.bars.length:=by rw[uI,hc1]
  obtain⟨ROW,hROW⟩: ∃R,eH fU (1020+eQ fU s.parts j) s.parts[j].cells=R:=⟨_,rfl⟩
  rw[hROW] at hrow hra hrl
  have hrd:=Qu s o j b hj hb hoj hob hc1 K hK hnp ROW
  rw[hK] at hrow
  rw[hcc] at hra
  have p1: ∀n,n<22->(n=K)=False:=fun n h=>eq_false (by omega)
  have p2: ∀n,1000<=n->(n=K)=False:=fun n h=>eq_false (by omega)
  have n1: ∀n,n<22->(K=n)=False:=fun n h=>eq_false (by omega)
  have n2: ∀n,1000<=n->(K=n)=False:=fun n h=>eq_false (by omega)
  have n3: ∀n,n<22->(K3=n)=False:=fun n h=>eq_false (by omega)
  have n4: ∀n,1000000<=n->(K3=n)=False:=fun n h=>eq_false (by omega)
  have n5:(K=K3)=False:=eq_false (by omega)
  have n6:(K3=K)=False:=eq_false (by omega)
  have n7: ∀n,n<22->(n=K3)=False:=fun n h=>eq_false (by omega)
  have n8: ∀n,1000000<=n->(n=K3)=False:=fun n h=>eq_false (by omega)
  have hKb:K<=1000:=by omega
  clear hK hK3 hROW
  have hdT: ∀n,1000000<=n->hdel T n=T:=fun n h=>gY (hT.hi n h)
  have k1:b<=s.bars.length:=by omega
  have k2:1<=s.bars.length - b:=by omega
  have hw:IntKind.i64.wrap (((c.length:Nat):Int)+1)=((c.length:Nat):Int)+1:=wrap_in (by omega)
  by_cases h1:0<=o.voice/\o.voice< ((c.length:Nat):Int)+1
  · rcases hd:o.cells with _|⟨d,_|⟨e,r⟩⟩
    · (refine aP.introZ hF hro 3 mix names (fn:=Tryz.f25) Tryz.func25 rfl ?_;simp only[Tryz.ntmps25,Tryz.results25,aJ,Nat.reduceAdd,Nat.reduceSub])
      repeat' (first
    |simp -implicitDefEqProofs (maxSteps:=9999999) only[↓reduceIte,aA,aC,facts,Nat.reduceAdd,Nat.reduceEqDiff,Nat.reduceLT,Nat.reduceLeDiff,Int.reduceBNe,List.flatMap_cons,List.flatMap_nil,AV.cells,Option.map_none,AV.one,aH.cells13,hob,hoj,fV,eF,jF,kG,List.length_drop,hd,bF,aU,pG,aV,dB,aW, *]
    |((with_reducible refine dG 48 ?_);refine bW (iF _ _ h1) (rfl) ?_)
    |((with_reducible refine dG 47 ?_);refine gV [2000024,20,K] _ hrd (rQ (by simp [bY,aH.cells13,eG,hoj,hob,hk,hd,List.map_nil]) (by simp [bY]) (by simp [bY,n1,n2,jF,hrow])) ?_)
    |((with_reducible refine aO ?_);refine bM (by decide+kernel) ?_)
    | ((with_reducible refine dP ?_ ?_);· (refine nP (fun n=>if n=K then 1500000 else if n=K3 then 1500001 else n) (xG (by omega) (by omega)) ?_;simp only[List.map_cons,List.map_nil,LE.ren,n1,n2,n3,n4,n5,n6,n7,n8,p1,p2,Nat.reduceLT,Nat.reduceLeDiff,↓reduceIte];kernel_rfl)))
      refine jL (by decide) (by simp only[Nat.reduceLeDiff]) rfl ?_
      simp only[eU,eG,aH.cells13,hk,hoj,hob,hd,List.map_nil]
      exact aB (by simp [hget]) (aB (by simp [hget]) (aB (by simp [hget]) (aB (by simp [hget]) (aB (by simp [hget]) fun k b h=>by cases h))))
    · rcases hd2:d with _|⟨d2,_|⟨e,r⟩⟩
      · rw[hd2] at hd
        (refine aP.introZ hF hro 3 mix names (fn:=Tryz.f25) Tryz.func25 rfl ?_;simp only[Tryz.ntmps25,Tryz.results25,aJ,Nat.reduceAdd,Nat.reduceSub])
        repeat' (first
    |simp -implicitDefEqProofs (maxSteps:=9999999) only[↓reduceIte,aA,aC,facts,Nat.reduceAdd,Nat.reduceEqDiff,Nat.reduceLT,Nat.reduceLeDiff,Int.reduceLE,Int.reduceBNe,List.flatMap_cons,List.flatMap_nil,AV.cells,Option.map_none,AV.one,aH.cells13,hob,hoj,fV,eF,jF,kG,List.length_drop,hd,dM,bF,aU,pG,aV,dB,aW, *]
    |((with_reducible refine dG 48 ?_);refine bW (iF _ _ h1) (rfl) ?_)
    |((with_reducible refine dG 47 ?_);refine gV [2000024,20,K] _ hrd (rQ (by simp [bY,aH.cells13,eG,hoj,hob,hk,hd,dM,List.map_nil,List.map_cons]) (by simp [bY]) (by simp [bY,n1,n2,jF,hrow])) ?_)
    |((with_reducible refine aO ?_);refine bM (by decide+kernel) ?_)
    | ((with_reducible refine dP ?_ ?_);· (refine nP (fun n=>if n=K then 1500000 else if n=K3 then 1500001 else n) (xG (by omega) (by omega)) ?_;simp only[List.map_cons,List.map_nil,LE.ren,n1,n2,n3,n4,n5,n6,n7,n8,p1,p2,Nat.reduceLT,Nat.reduceLeDiff,↓reduceIte];kernel_rfl)))
        refine jL (by decide) (by simp only[Nat.reduceLeDiff]) rfl ?_
        simp only[eU,eG,aH.cells13,hk,hoj,hob,hd,dM,List.map_nil,List.map_cons]
        exact aB (by simp [hget]) (aB (by simp [hget]) (aB (by simp [hget]) (aB (by simp [hget]) (aB (by simp [hget]) fun k b h=>by cases h))))
      · rw [hd2] at hd
        have h4:(((d2.length:Nat):Int) !=1)=true:=by
          have:d2.length≠1:=fun h=>hno ⟨⟨h1.1,by omega⟩,by
            obtain⟨x,hx⟩:=List.length_eq_one_iff.1 h
            exact⟨x,by rw[hd,hx]⟩⟩
          simp;omega
        (refine aP.introZ hF hro 3 mix names (fn:=Tryz.f25) Tryz.func25 rfl ?_;simp only[Tryz.ntmps25,Tryz.results25,aJ,Nat.reduceAdd,Nat.reduceSub])
        repeat' (first
    |simp -implicitDefEqProofs (maxSteps:=9999999) only[↓reduceIte,aA,aC,facts,Nat.reduceAdd,Nat.reduceEqDiff,Nat.reduceLT,Nat.reduceLeDiff,Int.reduceLE,Int.reduceBNe,List.flatMap_cons,List.flatMap_nil,AV.cells,AV.one,aH.cells13,hob,hoj,fV,eF,jF,kG,List.length_drop,hd,dM,bU,bF,aU,aV,dB,aW, *]
    |((with_reducible refine dG 48 ?_);refine bW (iF _ _ h1) (rfl) ?_)
    |((with_reducible refine dG 47 ?_);refine gV [2000024,20,K] _ hrd (rQ (by simp [bY,aH.cells13,eG,hoj,hob,hk,hd,dM,bU,List.map_nil,List.map_cons]) (by simp [bY]) (by simp [bY,n1,n2,jF,hrow])) ?_)
    |((with_reducible refine aO ?_);refine bM (by decide+kernel) ?_)
    | ((with_reducible refine dP ?_ ?_);· (refine nP (fun n=>if n=K then 1500000 else if n=K3 then 1500001 else n) (xG (by omega) (by omega)) ?_;simp only[List.map_cons,List.map_nil,LE.ren,n1,n2,n3,n4,n5,n6,n7,n8,p1,p2,Nat.reduceLT,Nat.reduceLeDiff,↓reduceIte];kernel_rfl)))
        refine jL (by decide) (by simp only[Nat.reduceLeDiff]) rfl ?_
        simp only[eU,eG,aH.cells13,hk,hoj,hob,hd,dM,bU,List.map_nil,List.map_cons]
        exact aB (by simp [hget]) (aB (by simp [hget]) (aB (by simp [hget]) (aB (by simp [hget]) (aB (by simp [hget]) fun k b h=>by cases h))))
      · rw[hd2] at hd
        have h4:(((r.length+1+1:Nat):Int) !=1)=true:=by simp;omega
        (refine aP.introZ hF hro 3 mix names (fn:=Tryz.f25) Tryz.func25 rfl ?_;simp only[Tryz.ntmps25,Tryz.results25,aJ,Nat.reduceAdd,Nat.reduceSub])
        repeat' (first
    |simp -implicitDefEqProofs (maxSteps:=9999999) only[↓reduceIte,aA,aC,facts,Nat.reduceAdd,Nat.reduceEqDiff,Nat.reduceLT,Nat.reduceLeDiff,Int.reduceLE,Int.reduceBNe,List.flatMap_cons,List.flatMap_nil,AV.cells,Option.map_none,AV.one,aH.cells13,hob,hoj,fV,eF,jF,kG,List.length_drop,hd,dM,bF,aU,pG,aV,dB,aW, *]
    |((with_reducible refine dG 48 ?_);refine bW (iF _ _ h1) (rfl) ?_)
    |((with_reducible refine dG 47 ?_);refine gV [2000024,20,K] _ hrd (rQ (by simp [bY,aH.cells13,eG,hoj,hob,hk,hd,dM,List.map_nil,List.map_cons]) (by simp [bY]) (by simp [bY,n1,n2,jF,hrow])) ?_)
    |((with_reducible refine aO ?_);refine bM (by decide+kernel) ?_)
    | ((with_reducible refine dP ?_ ?_);· (refine nP (fun n=>if n=K then 1500000 else if n=K3 then 1500001 else n) (xG (by omega) (by omega)) ?_;simp only[List.map_cons,List.map_nil,LE.ren,n1,n2,n3,n4,n5,n6,n7,n8,p1,p2,Nat.reduceLT,Nat.reduceLeDiff,↓reduceIte];kernel_rfl)))
        refine jL (by decide) (by simp only[Nat.reduceLeDiff]) rfl ?_
        simp only[eU,eG,aH.cells13,hk,hoj,hob,hd,dM,List.map_nil,List.map_cons]
        exact aB (by simp [hget]) (aB (by simp [hget]) (aB (by simp [hget]) (aB (by simp [hget]) (aB (by simp [hget]) fun k b h=>by cases h))))
    · have h4:(((r.length+1+1:Nat):Int) !=1)=true:=by simp;omega
      (refine aP.introZ hF hro 3 mix names (fn:=Tryz.f25) Tryz.func25 rfl ?_;simp only[Tryz.ntmps25,Tryz.results25,aJ,Nat.reduceAdd,Nat.reduceSub])
      repeat' (first
    |simp -implicitDefEqProofs (maxSteps:=9999999) only[↓reduceIte,aA,aC,facts,Nat.reduceAdd,Nat.reduceEqDiff,Nat.reduceLT,Nat.reduceLeDiff,List.flatMap_cons,List.flatMap_nil,AV.cells,Option.map_none,AV.one,aH.cells13,hob,hoj,fV,eF,jF,kG,List.length_drop,hd,bF,aU,pG,aV,dB,aW, *]
    |((with_reducible refine dG 48 ?_);refine bW (iF _ _ h1) (rfl) ?_)
    |((with_reducible refine dG 47 ?_);refine gV [2000024,20,K] _ hrd (rQ (by simp [bY,aH.cells13,eG,hoj,hob,hk,hd,List.map_nil,List.map_cons]) (by simp [bY]) (by simp [bY,n1,n2,jF,hrow])) ?_)
    |((with_reducible refine aO ?_);refine bM (by decide+kernel) ?_)
    | ((with_reducible refine dP ?_ ?_);· (refine nP (fun n=>if n=K then 1500000 else if n=K3 then 1500001 else n) (xG (by omega) (by omega)) ?_;simp only[List.map_cons,List.map_nil,LE.ren,n1,n2,n3,n4,n5,n6,n7,n8,p1,p2,Nat.reduceLT,Nat.reduceLeDiff,↓reduceIte];kernel_rfl)))
      refine jL (by decide) (by simp only[Nat.reduceLeDiff]) rfl ?_
      simp only[eU,eG,aH.cells13,hk,hoj,hob,hd,List.map_nil,List.map_cons]
      exact aB (by simp [hget]) (aB (by simp [hget]) (aB (by simp [hget]) (aB (by simp [hget]) (aB (by simp [hget]) fun k b h=>by cases h))))
  · (refine aP.introZ hF hro 3 mix names (fn:=Tryz.f25) Tryz.func25 rfl ?_;simp only[Tryz.ntmps25,Tryz.results25,aJ,Nat.reduceAdd,Nat.reduceSub])
    repeat' (first
    |simp -implicitDefEqProofs (maxSteps:=9999999) only[↓reduceIte,aA,aC,facts,Nat.reduceAdd,Nat.reduceEqDiff,Nat.reduceLT,Nat.reduceLeDiff,List.flatMap_cons,List.flatMap_nil,AV.cells,Option.map_none,AV.one,aH.cells13,hob,hoj,fV,eF,jF,kG,List.length_drop,bF,aU,pG,aV,dB,aW, *]
    |((with_reducible refine dG 48 ?_);refine bW (tH _ _ h1) (rfl) ?_)
    |((with_reducible refine dG 47 ?_);refine gV [2000024,20,K] _ hrd (rQ (by simp [bY,aH.cells13,eG,hoj,hob,hk,List.map_nil]) (by simp [bY]) (by simp [bY,n1,n2,jF,hrow])) ?_)
    |((with_reducible refine aO ?_);refine bM (by decide+kernel) ?_)
    |((with_reducible refine dP ?_ ?_);· (refine nP (fun n=>if n=K then 1500000 else if n=K3 then 1500001 else n) (xG (by omega) (by omega)) ?_;simp only[List.map_cons,List.map_nil,LE.ren,n1,n2,n3,n4,n5,n6,n7,n8,p1,p2,Nat.reduceLT,Nat.reduceLeDiff,↓reduceIte];kernel_rfl)))
    refine jL (by decide) (by simp only[Nat.reduceLeDiff]) rfl ?_
    simp only[eU,eG,aH.cells13,hk,hoj,hob,List.map_nil]
    exact aB (by simp [hget]) (aB (by simp [hget]) (aB (by simp [hget]) (aB (by simp [hget]) (aB (by simp [hget]) fun k b h=>by cases h))))
theorem aGx (s:Sc) (o:aH) (hk:o.kind=7) (hno: ¬((0<=o.part/\o.part< (s.parts.length:Nat))/\(0<=o.bar/\o.bar< (s.bars.length:Nat)))) {F:Fence} (hF:Free F) (hro:F.round=none) {W:World}:aP F Tryz.prog gl W 26 [.ptr 2000024 0] (MK s o (fun v=>v=errR 90)) ⟨iD fU s o,2000068⟩:=by
 rw[iD,eU,eG]
 generalize lW fU s=T
 have hrd:=aD0 s o hno
 have K:Nat:=0
 have K3:Nat:=0
 (refine aP.introZ hF hro 3 mix names (fn:=Tryz.f26) Tryz.func26 rfl ?_;simp only[Tryz.ntmps26,Tryz.results26,aJ,Nat.reduceAdd,Nat.reduceSub])
 repeat' (first
  |simp -implicitDefEqProofs (maxSteps:=9999999) only[↓reduceIte,aA,aC,facts,Nat.reduceAdd,Nat.reduceEqDiff,Nat.reduceLeDiff,List.flatMap_cons,List.flatMap_nil,AV.cells,Option.map_none,AV.one,aH.cells13,fV,eF,kG,bF,aU,pG,aV,dB,aW, *]
  |((with_reducible refine dG 47 ?_);refine gV [2000024,20] _ hrd (aDz (by simp [bY,aH.cells13,eG,hk]) (by simp [bY])) ?_)
  |((with_reducible refine aO ?_);refine bM (by decide+kernel) ?_)
  |((with_reducible refine dP ?_ ?_);· decide+kernel))
 (refine jL (by decide) (by simp only[Nat.reduceLeDiff]) rfl ?_;simp only[eU,eG,aH.cells13,hk];exact aB (by simp [hget]) (aB (by simp [hget]) (aB (by simp [hget]) (aB (by simp [hget]) (aB (by simp [hget]) fun k b h=>by cases h)))))
theorem aH5 (s:Sc) (o:aH) (hk:o.kind=7) (hg:s.goodU fU) (j b:Nat) (hj:j<s.parts.length) (hb:b<s.bars.length) (hoj:o.part=(j:Nat)) (hob:o.bar=(b:Nat)) (hc1:s.parts[j].cells.length=s.bars.length) (c:List Vo) (hcc:s.parts[j].cells[b]'(by rw[hc1];exact hb)=c) (hcl:c.length<=800) (hno: ¬(0<=o.voice/\o.voice< (c.length:Nat))) {F:Fence} (hF:Free F) (hro:F.round=none) {W:World}:aP F Tryz.prog gl W 26 [.ptr 2000024 0] (MK s o (fun v=>v=errR 90)) ⟨iD fU s o,2000068⟩:=by
 have hT:=sW s hg
 have hA:=yQ s hg
 rw[iD,eU,eG]
 generalize lW fU s=T at hT hA ⊢
 have hnp:=hg.hi
 have hrow:=hA.row j hj
 have hbc:b<s.parts[j].cells.length:=by omega
 obtain⟨K,hK⟩: ∃K,22+2*j=K:=⟨_,rfl⟩
 obtain⟨K3,hK3⟩: ∃K,1020+eQ fU s.parts j+cnt fU (s.parts[j].cells.take b)=K:=⟨_,rfl⟩
 have h3:=(Ny _ _ b hbc (wE 1020 s.parts j hj hA.dp)).head
 have hra:=Ij (Φ:=fU) (fun _ _=>rfl) (1020+eQ fU s.parts j) s.parts[j].cells b hbc
 rw[hK3] at h3 hra
 have hm3:=hT.mem h3
 have hrl:(eH fU (1020+eQ fU s.parts j) s.parts[j].cells).length=s.bars.length:=by rw[uI,hc1]
 obtain⟨ROW,hROW⟩: ∃R,eH fU (1020+eQ fU s.parts j) s.parts[j].cells=R:=⟨_,rfl⟩
 rw[hROW] at hrow hra hrl
 have hrd:=Qu s o j b hj hb hoj hob hc1 K hK hnp ROW
 rw[hK] at hrow
 rw[hcc] at hra
 have p1: ∀n,n<22->(n=K)=False:=fun n h=>eq_false (by omega)
 have p2: ∀n,1000<=n->(n=K)=False:=fun n h=>eq_false (by omega)
 have n1: ∀n,n<22->(K=n)=False:=fun n h=>eq_false (by omega)
 have n2: ∀n,1000<=n->(K=n)=False:=fun n h=>eq_false (by omega)
 have n3: ∀n,n<22->(K3=n)=False:=fun n h=>eq_false (by omega)
 have n4: ∀n,1000000<=n->(K3=n)=False:=fun n h=>eq_false (by omega)
 have n5:(K=K3)=False:=eq_false (by omega)
 have n6:(K3=K)=False:=eq_false (by omega)
 have n7: ∀n,n<22->(n=K3)=False:=fun n h=>eq_false (by omega)
 have n8: ∀n,1000000<=n->(n=K3)=False:=fun n h=>eq_false (by omega)
 have hKb:K<=1000:=by omega
 clear hK hK3 hROW
 have hdT: ∀n,1000000<=n->hdel T n=T:=fun n h=>gY (hT.hi n h)
 have k1:b<=s.bars.length:=by omega
 have k2:1<=s.bars.length - b:=by omega
 have h1:=hno
 (refine aP.introZ hF hro 3 mix names (fn:=Tryz.f26) Tryz.func26 rfl ?_;simp only[Tryz.ntmps26,Tryz.results26,aJ,Nat.reduceAdd,Nat.reduceSub])
 repeat' (first
  |simp -implicitDefEqProofs (maxSteps:=9999999) only[↓reduceIte,aA,aC,facts,Nat.reduceAdd,Nat.reduceEqDiff,Nat.reduceLT,Nat.reduceLeDiff,List.flatMap_cons,List.flatMap_nil,AV.cells,AV.one,aH.cells13,hob,hoj,fV,eF,jF,kG,List.length_drop,bF,aU,aV,dB,aW, *]
  |((with_reducible refine dG 48 ?_);refine bW (tH _ _ h1) (rfl) ?_)
  |((with_reducible refine dG 47 ?_);refine gV [2000024,20,K] _ hrd (rQ (by simp [bY,aH.cells13,eG,hoj,hob,hk,List.map_nil]) (by simp [bY]) (by simp [bY,n1,n2,jF,hrow])) ?_)
  |((with_reducible refine aO ?_);refine bM (by decide+kernel) ?_)
  |((with_reducible refine dP ?_ ?_);· (refine nP (fun n=>if n=K then 1500000 else if n=K3 then 1500001 else n) (xG (by omega) (by omega)) ?_;simp only[List.map_cons,List.map_nil,LE.ren,n1,n2,n3,n4,n5,n6,n7,n8,p1,p2,Nat.reduceLT,Nat.reduceLeDiff,↓reduceIte];kernel_rfl)))
 refine jL (by decide) (by simp only[Nat.reduceLeDiff]) rfl ?_
 simp only[eU,eG,aH.cells13,hk,hoj,hob,List.map_nil]
 exact aB (by simp [hget]) (aB (by simp [hget]) (aB (by simp [hget]) (aB (by simp [hget]) (aB (by simp [hget]) fun k b h=>by cases h))))
end Go.Proofs.Pv
