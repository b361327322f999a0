/-
Layer 9's edits: a part's events go up, one by one.
Conditions: none but those that each statement names.
-/
import Derived.Test.YtoaofjhadfihjaaGreatDoorC11m
set_option linter.unusedVariables false
set_option linter.unusedSimpArgs false
set_option maxRecDepth 100000
set_option maxHeartbeats 16000000
namespace Go.Proofs.Pv
open Go Go.Proofs
def aO7 (ps:List Pa) (j:Nat) (st ha:Int) (cs:List (List Vo)):AV->St->Prop:=fun u su=>u= .int .i64 (eY st ha cs)/\su.nx<=4000000/\hget su.h 20=some (.cells (cZ 22 ps))/\(eY st ha cs=0-> ∀k b,hget (TZ (jX ps j (gU st ha (fun _ _ _=>true) cs))) k=some b->hget su.h k=some b)
theorem aDm {ps:List Pa} {j:Nat} {st ha:Int} {cs:List (List Vo)} {u:AV} {su:St}:aO7 ps j st ha cs u su=(u= .int .i64 (eY st ha cs)/\su.nx<=4000000/\hget su.h 20=some (.cells (cZ 22 ps))/\(eY st ha cs=0-> ∀k b,hget (TZ (jX ps j (gU st ha (fun _ _ _=>true) cs))) k=some b->hget su.h k=some b)):=rfl
theorem okTo0 {st ha:Int} {cs:List (List Vo)}:Bc st ha cs 0 0 0:=fun b' _ v' _ i' _ h=>by simp [iJ] at h
theorem aGj: ∀(K:Nat) (c:List Vo) (v:Nat) (h:v<c.length),List.take 1 (List.drop v (lG K c))=[.msl (K+v) 0 c[v].l.length 9]
 |K,[],v,h=>by simp at h
 |K,x::c,0,h=>rfl
 |K,x::c,v+1,h=>by
  have:=aGj (K+1) c v (by simpa using h)
  rw[show K+(v+1)=K+1+v by omega]
  simpa [lG] using this
theorem W_at {ps:List Pa} {j:Nat} (hj:j<ps.length) {st ha:Int} {P:Nat->Nat->Nat->Bool} {cs:List (List Vo)} (hok:tH (jX ps j (gU st ha P cs))) {b:Nat} (hb:b<cs.length) {KC:Nat} (hKC:1020+eQ dJ ps j+cnt dJ (cs.take b)=KC):
  hget (TZ (jX ps j (gU st ha P cs))) KC=some (.cells (lG (KC+1) ((gU st ha P cs)[b]'(by rw[kN];exact hb))))/\ ∀v (hv:v<cs[b].length),hget (TZ (jX ps j (gU st ha P cs))) (KC+1+v)=some (.cells (wV (vW st ha (P b v) cs[b][v]))):=by
 have hTA:=aEa hok
 have hjW:j< (jX ps j (gU st ha P cs)).length:=by rw[jX,List.length_set];exact hj
 have hbW:b< (gU st ha P cs).length:=by rw[kN];exact hb
 have h0:=vZ 1020 _ j hjW hTA.dp
 rw[aB7,aAy hj hjW] at h0
 have h1:=Nu _ _ b hbW h0
 rw[aGw,hKC] at h1
 refine⟨h1.head,fun v hv=>?_⟩
 have h2:=h1.tail v (by rw[List.length_map,qJ,List.length_mapIdx];exact hv)
 rw[h2]
 congr 2
 rw[List.getElem_map]
 congr 1
 simp only[qJ,List.getElem_mapIdx]
theorem aUi {ps:List Pa} {j:Nat} (hj:j<ps.length) {st ha:Int} {cs:List (List Vo)} {b v i:Nat} (hok:tH (jX ps j (gU st ha (iJ b v i) cs))) (hb:b<cs.length) (hv:v<cs[b].length) (hi:i<cs[b][v].l.length) {K:Nat} (hK:1020+eQ dJ ps j+cnt dJ (cs.take b)+(v+1)=K):
  hset (TZ (jX ps j (gU st ha (iJ b v i) cs))) K (.cells (((vW st ha (iJ b v i b v) cs[b][v]).l.set i (cs[b][v].l[i].up st ha).1).flatMap Ev.cells))=TZ (jX ps j (gU st ha (iJ b v (i+1)) cs)):=by
 have hjW:j< (jX ps j (gU st ha (iJ b v i) cs)).length:=by rw[jX,List.length_set];exact hj
 have hc:(jX ps j (gU st ha (iJ b v i) cs))[j].cells=gU st ha (iJ b v i) cs:=by rw[aAy hj hjW]
 have hbW:b< (gU st ha (iJ b v i) cs).length:=by rw[kN];exact hb
 have hr:(gU st ha (iJ b v i) cs)[b]=cs[b].mapIdx fun v' x=>vW st ha (iJ b v i b v') x:=qJ hbW
 have hvW:v< (gU st ha (iJ b v i) cs)[b].length:=by rw[hr,List.length_mapIdx];exact hv
 have hx:(gU st ha (iJ b v i) cs)[b][v]=vW st ha (iJ b v i b v) cs[b][v]:=by simp only[hr,List.getElem_mapIdx]
 have h:=(aVo hok hjW (b:=b) (v:=v) (w:=⟨(vW st ha (iJ b v i b v) cs[b][v]).l.set i (cs[b][v].l[i].up st ha).1⟩) (by rw[hc];exact hbW) (by simp only[hc];exact hvW) (by simp only[hc,hx,List.length_set])).1
 rw[aB7,hc,aGw,hK] at h
 rw[wV] at h
 rw[h,aGz hb hv hi,aAy hj hjW]
 simp only[jX,List.set_set,Pa.vset]
theorem aLn (ps:List Pa) (hok:tH ps) (j:Nat) (hj:j<ps.length) (cs:List (List Vo)) (hcs:ps[j].cells=cs) (hl:cs.length<=1000000) (hl2: ∀c∈cs,c.length<=1000000/\ ∀v∈c,v.small) (st ha:Int) {F:Fence} (hF:Free F) (hro:F.round=none) {W:World}:aP F Tryz.prog gl W 64 [.ptr 20 (j*5),uK st ha] (aO7 ps j st ha cs) ⟨(20,.cells (cZ 22 ps))::TZ ps,3000000⟩:=by
  have hpl:(cZ 22 ps).length=ps.length*5:=kW _ _
  have r1:=(Ip 22 ps j hj).1
  rw[hcs] at r1
  obtain⟨KR,hKR⟩: ∃K,22+2*j=K:=⟨_,rfl⟩
  rw[hKR] at r1
  have hn4:=hok.n
  have k4:j*5+3<=ps.length*5:=by omega
  have k6:1<=ps.length*5 - (j*5+3):=by omega
  have hps0:jX ps j (gU st ha (iJ 0 0 0) cs)=ps:=by
    rw[aWd (fun b v i=>by simp [iJ]),jX,tZ hj,<-hcs]
    exact List.set_getElem_self hj
  have hokW: ∀P,tH (jX ps j (gU st ha P cs)):=fun P=>aGx hok hj (by rw[aAz,hcs])
  have hptf: ∀f:Nat->Option Nat,(∀k,k<1000000->f k=some k)->(cZ 22 ps).map (AV.ren f)=cZ 22 ps:=fun f hf=>mP 22 22 ps fun q hq=>hf _ (by omega)
  have q1: ∀n,n<22->(KR=n)=False:=fun n h=>eq_false (by omega)
  have q2: ∀n,1000<=n->(KR=n)=False:=fun n h=>eq_false (by omega)
  have hKRb:KR<=1000:=by omega
  have bKR:PLift (22+2*j=KR):=⟨hKR⟩
  clear hKR
  (refine aP.introZ hF hro 4 mix names (fn:=Tryz.f64) Tryz.func64 rfl ?_;simp only[Tryz.ntmps64,Tryz.results64,aJ,Nat.reduceAdd,Nat.reduceSub])
  repeat' (simp -implicitDefEqProofs (maxSteps:=9999999) only[↓reduceIte,aA,aC,facts,Nat.reduceAdd,Nat.reduceEqDiff,uK,List.length_drop, *])
  refine jU (fE 53 [3,16,17,18]) 3000100 cs.length (fun b (_:Unit)=>⟨[.ud,.ud,.ud,.ptr 3000000 0,.ud,.ud,.ud,.ud,.ud,.ud,.ud,.ud,.ud,.ud,.ud,.ud,.msl KR 0 cs.length 1,.int .i64 (cs.length:Nat),.int .i64 (b:Nat),.ud,.ud,.ud,.ud,.ud,.ud,.ud,.ud,.ud,.ud,.ud,.ud,.ud,.ud,.ud,.ud,.ud,.ud,.ud,.ud,.ud,.ud,.ud,.ud,.ud,.ud,.ud,.ud,.ud,.ud,.ud,.ud,.ud,.ud],[]⟩) (fun b _=>⟨(3000000,.cells [.int .i64 st,.int .i64 ha])::(20,.cells (cZ 22 ps))::TZ (jX ps j (gU st ha (iJ b 0 0) cs)),3000100⟩) (fun b _=>Bc st ha cs b 0 0) ⟨(),okTo0,bI 3000008 [],gK 3000008 [],dH.of_fit rfl rfl rfl,?_,rfl,?_⟩ ?_
  · rw[hps0]
    have hT:=yJ hok
    refine aG.cons 3000000 rfl rfl rfl (aG.cons 20 (by simp [hget]) rfl (hptf _ fun k hk=>if_pos (by omega)) (yA hok (fun k hk=>if_pos (by omega)) fun k b hk=>?_))
    have:=hT.mem hk
    rw[bD (by omega),bD (by omega)];exact hk
  · simp [Fr.renF,kE,fE,tC,Nat.beq,AV.ren,bI,show KR<3000008 by omega]
  rintro b x hb hQ
  rcases Nat.lt_or_ge b cs.length with hlt|hge
  · obtain ⟨hc1,hc2⟩:=hl2 cs[b] (List.getElem_mem hlt)
    have hTA:=aEa (hokW (iJ b 0 0))
    have hTT:=yJ (hokW (iJ b 0 0))
    have hjW:j< (jX ps j (gU st ha (iJ b 0 0) cs)).length:=by rw[jX,List.length_set];exact hj
    have hrow:=hTA.row j hjW
    rw[aAy hj hjW,aB7,bKR.down] at hrow
    have hbW:b< (gU st ha (iJ b 0 0) cs).length:=by rw[kN];exact hlt
    have hra:=Ie (Φ:=dJ) (fun _ _=>rfl) (1020+eQ dJ ps j) (gU st ha (iJ b 0 0) cs) b hbW
    have hrl:(eH dJ (1020+eQ dJ ps j) (gU st ha (iJ b 0 0) cs)).length=cs.length:=by rw[uF,kN]
    rw[aGw,qJ,List.length_mapIdx] at hra
    obtain⟨KC,hKC⟩: ∃K,1020+eQ dJ ps j+cnt dJ (cs.take b)=K:=⟨_,rfl⟩
    rw[hKC] at hra
    simp only at hrow
    generalize eH dJ (1020+eQ dJ ps j) (gU st ha (iJ b 0 0) cs)=ROW at hrow hra hrl
    obtain⟨T,hTe⟩: ∃T,TZ (jX ps j (gU st ha (iJ b 0 0) cs))=T:=⟨_,rfl⟩
    rw[hTe] at hrow hTT ⊢
    have bT:PLift (TZ (jX ps j (gU st ha (iJ b 0 0) cs))=T):=⟨hTe⟩
    have bKC:PLift (1020+eQ dJ ps j+cnt dJ (cs.take b)=KC):=⟨hKC⟩
    clear hTe hKC
    have hKCb:KC<1000000:=by
      have h1:=Nv (Φ:=dJ) ps j ps.length hj hj
      have h2:eQ dJ ps ps.length=fM dJ ps:=by rw[eQ,List.take_length]
      have h3:=hok.c
      have h4:=aQ3 (Φ:=dJ) cs b
      rw[hcs] at h1
      have:=bKC.down
      omega
    have hKC0:1020<=KC:=by have:=bKC.down;omega
    have k7:b<=cs.length:=by omega
    have k8:1<=cs.length - b:=by omega
    have k9:((b:Nat):Int)< ((cs.length:Nat):Int):=by omega
    repeat' (simp -implicitDefEqProofs (maxSteps:=9999999) only[↓reduceIte,aA,aC,facts,Nat.reduceAdd,Nat.reduceLT,Nat.reduceLeDiff,List.length_drop,Int.natCast_nonneg, *])
    refine jU (fE 53 [3,16,17,18,22,23,24]) 3000200 cs[b].length (fun v (_:Unit)=>⟨[.ud,.ud,.ud,.ptr 3000000 0,.ud,.ud,.ud,.ud,.ud,.ud,.ud,.ud,.ud,.ud,.ud,.ud,.msl KR 0 cs.length 1,.int .i64 (cs.length:Nat),.int .i64 (b:Nat),.ud,.ud,.ud,.msl KC 0 cs[b].length 1,.int .i64 (cs[b].length:Nat),.int .i64 (v:Nat),.ud,.ud,.ud,.ud,.ud,.ud,.ud,.ud,.ud,.ud,.ud,.ud,.ud,.ud,.ud,.ud,.ud,.ud,.ud,.ud,.ud,.ud,.ud,.ud,.ud,.ud,.ud,.ud],[]⟩) (fun v _=>⟨(3000000,.cells [.int .i64 st,.int .i64 ha])::(20,.cells (cZ 22 ps))::TZ (jX ps j (gU st ha (iJ b v 0) cs)),3000200⟩) (fun v _=>Bc st ha cs b v 0) ⟨(),hQ,bI 3000107 [],gK 3000107 [],dH.of_fit rfl rfl rfl,?_,rfl,?_⟩ ?_
    · rw[bT.down]
      refine aG.cons 3000000 rfl rfl rfl (aG.cons 20 (by simp [hget]) rfl (hptf _ fun k hk=>if_pos (by omega)) ?_)
      rw[<-bT.down]
      refine yA (hokW _) (fun k hk=>if_pos (by omega)) fun k b hk=>?_
      rw[bT.down] at hk ⊢
      have:=hTT.mem hk
      rw[bD (by omega),bD (by omega)];exact hk
    · simp [Fr.renF,kE,fE,tC,Nat.beq,AV.ren,bI,show KR<3000107 by omega,show KC<3000107 by omega]
    clear hrow hTT hTA hra hrl
    rintro v x hv hQv
    rcases Nat.lt_or_ge v cs[b].length with hvlt|hvge
    · have hvs:=hc2 cs[b][v] (List.getElem_mem hvlt)
      have hTT:=yJ (hokW (iJ b v 0))
      have hW:=(W_at hj (hokW (iJ b v 0)) hlt bKC.down).1
      have hva:=aGj (KC+1) ((gU st ha (iJ b v 0) cs)[b]'(by rw[kN];exact hlt)) v (by rw[qJ,List.length_mapIdx];exact hvlt)
      have hvl:(lG (KC+1) ((gU st ha (iJ b v 0) cs)[b]'(by rw[kN];exact hlt))).length=cs[b].length:=by rw[Td,qJ,List.length_mapIdx]
      generalize lG (KC+1) ((gU st ha (iJ b v 0) cs)[b]'(by rw[kN];exact hlt))=VR at hW hva hvl
      simp only[qJ,List.getElem_mapIdx,vW,List.length_mapIdx] at hva
      obtain⟨KE,hKE⟩: ∃K,KC+1+v=K:=⟨_,rfl⟩
      rw[hKE] at hva
      obtain⟨T,hTe⟩: ∃T,TZ (jX ps j (gU st ha (iJ b v 0) cs))=T:=⟨_,rfl⟩
      rw[hTe] at hW hTT ⊢
      have bT:PLift (TZ (jX ps j (gU st ha (iJ b v 0) cs))=T):=⟨hTe⟩
      have bKE:PLift (KC+1+v=KE):=⟨hKE⟩
      clear hTe hKE
      have w1:v<=cs[b].length:=by omega
      have w2:1<=cs[b].length - v:=by omega
      have w3:((v:Nat):Int)< ((cs[b].length:Nat):Int):=by omega
      have u1: ∀n,n<22->(KC=n)=False:=fun n h=>eq_false (by omega)
      have u2: ∀n,1000000<=n->(KC=n)=False:=fun n h=>eq_false (by omega)
      have hnl:=hvs.1
      repeat' (simp -implicitDefEqProofs (maxSteps:=9999999) only[↓reduceIte,aA,aC,facts,Nat.reduceAdd,Nat.reduceEqDiff,Nat.reduceLT,Nat.reduceLeDiff,List.length_drop,Int.natCast_nonneg, *])
      refine jU (fE 53 [3,8,16,17,18,22,23,24,29,30,31]) 3000300 cs[b][v].l.length (fun i (_:Unit)=>⟨[.ud,.ud,.ud,.ptr 3000000 0,.ud,.ud,.ud,.ud,.ptr 3000203 0,.ud,.ud,.ud,.ud,.ud,.ud,.ud,.msl KR 0 cs.length 1,.int .i64 (cs.length:Nat),.int .i64 (b:Nat),.ud,.ud,.ud,.msl KC 0 cs[b].length 1,.int .i64 (cs[b].length:Nat),.int .i64 (v:Nat),.ud,.ud,.ud,.ud,.msl KE 0 cs[b][v].l.length 9,.int .i64 (cs[b][v].l.length:Nat),.int .i64 (i:Nat),.ud,.ud,.ud,.ud,.ud,.ud,.ud,.ud,.ud,.ud,.ud,.ud,.ud,.ud,.ud,.ud,.ud,.ud,.ud,.ud,.ud],[]⟩) (fun i _=>⟨(3000203,.cells [.msl KE 0 cs[b][v].l.length 9])::(3000000,.cells [.int .i64 st,.int .i64 ha])::(20,.cells (cZ 22 ps))::TZ (jX ps j (gU st ha (iJ b v i) cs)),3000300⟩) (fun i _=>Bc st ha cs b v i) ⟨(),hQv,bI 3000209 [],gK 3000209 [],dH.of_fit rfl rfl rfl,?_,rfl,?_⟩ ?_
      · rw[bT.down]
        refine aG.cons 3000203 rfl rfl ?_ (aG.cons 3000000 rfl rfl rfl (aG.cons 20 (by simp [hget]) rfl (hptf _ fun k hk=>if_pos (by omega)) ?_))
        · simp [AV.ren,bI,show KE<3000209 by have:=bKE.down;omega]
        · rw[<-bT.down]
          refine yA (hokW _) (fun k hk=>if_pos (by omega)) fun k b hk=>?_
          rw[bT.down] at hk ⊢
          have:=hTT.mem hk
          rw[bD (by omega),bD (by omega),bD (by omega)];exact hk
      · simp [Fr.renF,kE,fE,tC,Nat.beq,AV.ren,bI,show KR<3000209 by omega,show KC<3000209 by omega,show KE<3000209 by have:=bKE.down;omega]
      clear hW hTT hva hvl
      rintro i x hi hQi
      rcases Nat.lt_or_ge i cs[b][v].l.length with hilt|hige
      · have hes:=hvs.2 cs[b][v].l[i] (List.getElem_mem hilt)
        have hTT:=yJ (hokW (iJ b v i))
        have hE:=(W_at hj (hokW (iJ b v i)) hlt bKC.down).2 v hvlt
        rw[bKE.down] at hE
        have hel:(wV (vW st ha (iJ b v i b v) cs[b][v])).length=cs[b][v].l.length*9:=by rw[wV,flat_length (k:=9) (fun _=>rfl),vW,List.length_mapIdx]
        have hiW:i< (vW st ha (iJ b v i b v) cs[b][v]).l.length:=by rw[vW,List.length_mapIdx];exact hilt
        have hd:List.take 9 (List.drop (i*9) (wV (vW st ha (iJ b v i b v) cs[b][v])))=cs[b][v].l[i].cells:=by
          rw[wV,Ny (k:=9) (fun _=>rfl) _ _ hiW]
          simp [vW,iJ]
        have hput:=Ij (c:=Ev.cells) (k:=9) (fun _=>rfl) (vW st ha (iJ b v i b v) cs[b][v]).l i hiW (cs[b][v].l[i].up st ha).1
        have hup:=aJ1 cs[b][v].l[i] st ha hes
        have hnext:=aGz (st:=st) (ha:=ha) hlt hvlt hilt
        rw[<-wV] at hput
        generalize wV (vW st ha (iJ b v i b v) cs[b][v])=EB at hE hel hd hput
        obtain⟨e,he⟩: ∃e,cs[b][v].l[i]=e:=⟨_,rfl⟩
        have hux0: ∃u z,cs[b][v].l[i].up st ha=(u,z):=⟨_,_,rfl⟩
        obtain⟨u,z,hux⟩:=hux0
        rw[hux] at hput hup hnext
        rw[he] at hd hup
        have bT2: ∃T,TZ (jX ps j (gU st ha (iJ b v i) cs))=T:=⟨_,rfl⟩
        obtain⟨T2,hT2⟩:=bT2
        rw[hT2] at hE hTT ⊢
        have bT2:PLift (TZ (jX ps j (gU st ha (iJ b v i) cs))=T2):=⟨hT2⟩
        clear hT2
        simp only[Ev.cells] at hd hput
        simp only[Ev.av,uK] at hup
        have w4:i*9<=cs[b][v].l.length*9:=by omega
        have w5:9<=cs[b][v].l.length*9 - i*9:=by omega
        have w6:((i:Nat):Int)< ((cs[b][v].l.length:Nat):Int):=by omega
        have w7:i*9+9<=cs[b][v].l.length*9:=by omega
        have u3: ∀n,n<1021->(KE=n)=False:=fun n h=>eq_false (by have:=bKE.down;omega)
        have u4: ∀n,3000000<=n->(KE=n)=False:=fun n h=>eq_false (by have:=bKE.down;omega)
        repeat' (first
    |simp -implicitDefEqProofs (maxSteps:=9999999) only[↓reduceIte,aA,aC,facts,Nat.reduceAdd,Nat.reduceEqDiff,Nat.reduceLT,Nat.reduceLeDiff,List.length_drop,Int.natCast_nonneg,rE, *]
    |((with_reducible refine dL (fun _=>?_) (fun _=>?_))<;>try omega)
    | ((with_reducible refine aS 101 ?_);refine PC.useZ hF hup (rfl) fun v hv=>?_;subst hv))
        · have hz:z≠0:=by intro h;simp_all
          have hre:=aH1 hlt hvlt hilt hQi (by rw[hux];exact hz)
          rw[hux] at hre
          rw[aDm,hre]
          exact⟨rfl,by simp only[Nat.reduceLeDiff],by simp [hget],fun h=>absurd h hz⟩
        · have hz:z=0:=by simp_all
          have hQ2:=aPg hlt hvlt hilt hQi (by rw[hux];exact hz)
          have hTn:=aUi hj (hokW (iJ b v i)) hlt hvlt hilt (K:=KE) (by have:=bKC.down;have:=bKE.down;omega)
          rw[hux,bT2.down] at hTn
          rw[hTn]
          have hwr:IntKind.i64.wrap ((i:Int)+1)=(i:Int)+1:=wrap_in (by omega)
          refine dN i () hilt rfl hQ2 (bI 3000209 []) (gK 3000209 []) (dH.of_fit rfl rfl rfl) ?_ rfl ?_
          · refine aG.cons 3000203 rfl rfl ?_ (aG.cons 3000000 rfl rfl rfl (aG.cons 20 (by simp [hget]) rfl (hptf _ fun k hk=>if_pos (by omega)) (yA (hokW _) (fun k hk=>if_pos (by omega)) fun k b hk=>?_)))
            · simp [AV.ren,bI,show KE<3000209 by have:=bKE.down;omega]
            · have:=(yJ (hokW _)).mem hk
              simp only[hget]
              repeat rw[if_neg (by omega)]
              exact hk
          · simp [Fr.renF,kE,fE,tC,Nat.beq,hwr,AV.ren,bI,show KR<3000209 by omega,show KC<3000209 by omega,show KE<3000209 by have:=bKE.down;omega]
      · have he:i=cs[b][v].l.length:=by omega
        subst he
        have hQ2:=aWe hlt hvlt hQi
        rw[csW_v hlt hvlt]
        repeat' (first
    |simp -implicitDefEqProofs (maxSteps:=9999999) only[↓reduceIte,aA,aC,facts,Nat.reduceAdd,aT, *]
    | ((with_reducible refine aF (fun _=>?_) (fun _=>?_))<;>try omega))
        have hwr:IntKind.i64.wrap ((v:Int)+1)=(v:Int)+1:=wrap_in (by omega)
        refine dN v () hvlt rfl hQ2 (bI 3000107 []) (gK 3000107 []) (dH.of_fit rfl rfl rfl) ?_ rfl ?_
        · refine aG.cons 3000000 rfl rfl rfl (aG.cons 20 (by simp [hget]) rfl (hptf _ fun k hk=>if_pos (by omega)) (yA (hokW _) (fun k hk=>if_pos (by omega)) fun k b hk=>?_))
          have:=(yJ (hokW _)).mem hk
          simp only[hget]
          repeat rw[if_neg (by omega)]
          exact hk
        · simp [Fr.renF,kE,fE,tC,Nat.beq,hwr,AV.ren,bI,show KR<3000107 by omega,show KC<3000107 by omega]
    · have he:v=cs[b].length:=by omega
      subst he
      have hQ2:=aWf hlt hQv
      rw[csW_b hlt]
      repeat' (first
    |simp -implicitDefEqProofs (maxSteps:=9999999) only[↓reduceIte,aA,aC,facts,Nat.reduceAdd,aT, *]
    | ((with_reducible refine aF (fun _=>?_) (fun _=>?_))<;>try omega))
      have hwr:IntKind.i64.wrap ((b:Int)+1)=(b:Int)+1:=wrap_in (by omega)
      refine dN b () hlt rfl hQ2 (bI 3000008 []) (gK 3000008 []) (dH.of_fit rfl rfl rfl) ?_ rfl ?_
      · refine aG.cons 3000000 rfl rfl rfl (aG.cons 20 (by simp [hget]) rfl (hptf _ fun k hk=>if_pos (by omega)) (yA (hokW _) (fun k hk=>if_pos (by omega)) fun k b hk=>?_))
        have:=(yJ (hokW _)).mem hk
        simp only[hget]
        repeat rw[if_neg (by omega)]
        exact hk
      · simp [Fr.renF,kE,fE,tC,Nat.beq,hwr,AV.ren,bI,show KR<3000008 by omega]
  · have he:b=cs.length:=by omega
    subst he
    have h0:=aLu hQ
    rw[aUo]
    repeat' (first
    |simp -implicitDefEqProofs (maxSteps:=9999999) only[↓reduceIte,aA,aC,facts,Nat.reduceAdd,aT, *]
    |((with_reducible refine aF (fun _=>?_) (fun _=>?_))<;>try omega))
    rw[aDm,h0]
    exact⟨rfl,by simp only[Nat.reduceLeDiff],by simp [hget],fun _ k b hk=>by
      have:=(yJ (hokW _)).mem hk
      simp only[hget]
      repeat rw[if_neg (by omega)]
      exact hk⟩
def sW {α:Type} (f:α->Int) (l:List α):Int:=((l.find? fun x=>decide (f x≠0)).map f).getD 0
theorem aCb {α:Type} {f:α->Int} {l:List α} {i:Nat} (hi:i<l.length) (h0: ∀j (hj:j<l.length),j<i->f l[j]=0) (hx:f l[i]≠0):sW f l=f l[i]:=by
 have e:l=l.take i++l[i]::l.drop (i+1):=Di hi
 rw[sW]
 conv=>lhs;rw[e]
 rw[List.find?_append,List.find?_eq_none.2 (fun x hxm=>?_)]
 ·rw[Option.none_or,List.find?_cons_of_pos (by simp [hx])]
  rfl
 ·obtain⟨j,hj,rfl⟩:=List.getElem_of_mem hxm
  simp only[List.length_take] at hj
  simp [h0 j (by omega) (by omega)]
theorem Xn {α:Type} {f:α->Int} {l:List α} (h: ∀j (hj:j<l.length),f l[j]=0):sW f l=0:=by
 rw[sW,List.find?_eq_none.2 (fun x hxm=>?_)]
 ·rfl
 ·obtain⟨j,hj,rfl⟩:=List.getElem_of_mem hxm
  simp [h j hj]
def mF {α:Type} (f:α->α) (i:Nat) (l:List α):List α:=(l.take i).map f++l.drop i
theorem aS2 {α:Type} {f:α->α} {l:List α}:mF f 0 l=l:=rfl
theorem aCc {α:Type} {f:α->α} {l:List α}:mF f l.length l=l.map f:=by rw[mF,List.take_length,List.drop_length,List.append_nil]
theorem wM {α:Type} {f:α->α} {i:Nat} {l:List α}:(mF f i l).length=l.length:=by simp [mF];omega
theorem uM {α:Type} {f:α->α} {i:Nat} {l:List α} (h:i<l.length) (h2:i< (mF f i l).length):(mF f i l)[i]=l[i]:=by
 simp only[mF]
 rw[List.getElem_append_right (by simp;omega)]
 simp only[List.length_map,List.length_take,Nat.min_eq_left (Nat.le_of_lt h),Nat.sub_self,List.getElem_drop,Nat.add_zero]
theorem Oh {α:Type} {f:α->α} {i:Nat} {l:List α} (h:i<l.length):(mF f i l).set i (f l[i])=mF f (i+1) l:=by
 rw[mF,mF,List.set_append_right _ _ (by simp;omega),List.take_succ_eq_append_getElem h,List.map_append,List.append_assoc]
 congr 1
 rw[List.drop_eq_getElem_cons h,List.length_map,List.length_take,Nat.min_eq_left (Nat.le_of_lt h),Nat.sub_self]
 rfl
def Ba.up (st ha:Int) (b:Ba):Ba:= {b with key:=(b.key.up st ha).1}
def Pa.up (st ha:Int) (p:Pa):Pa:= {p with cells:=gU st ha (fun _ _ _=>true) p.cells}
def keyE (st ha:Int) (b:Ba):Int:=(b.key.up st ha).2
def Rf (st ha:Int) (p:Pa):Int:=eY st ha p.cells
theorem aCd {st ha:Int} {ps:List Pa} {j:Nat} (hj:j<ps.length):jX (mF (Pa.up st ha) j ps) j (gU st ha (fun _ _ _=>true) ps[j].cells)=mF (Pa.up st ha) (j+1) ps:=by
 rw[jX,tZ (by rw[wM];exact hj),uM hj,<-Oh hj]
 rfl
theorem Vk {st ha:Int} {ps:List Pa} (h:tH ps): ∀j,j<=ps.length->tH (mF (Pa.up st ha) j ps)
 |0,_=>h
 |j+1,hj=>by
  rw[<-aCd hj]
  exact aGx (Vk h j (by omega)) (by rw[wM];exact hj) (by rw[aAz,uM hj])
theorem Xo {st ha:Int} {ps:List Pa} {R:Nat}: ∀j,j<=ps.length->cZ R (mF (Pa.up st ha) j ps)=cZ R ps
 |0,_=>rfl
 |j+1,hj=>by
  have hl:j< (mF (Pa.up st ha) j ps).length:=by rw[wM];exact hj
  rw[<-Oh hj,zJ R _ j _ hl (by rw[uM hj];rfl) (by rw[uM hj];rfl) (by rw[uM hj];rfl) (by rw[uM hj];exact kN) (by rw[uM hj];rfl)]
  exact Xo j (by omega)
theorem aPq {st ha:Int} {P:Nat->Bool} {x:Vo} (h:x.small):(vW st ha P x).small:=by
 refine⟨by rw[vW,List.length_mapIdx];exact h.1,fun e he=>?_⟩
 simp only[vW] at he
 obtain⟨i,hi,rfl⟩:=List.getElem_of_mem he
 simp only[List.length_mapIdx] at hi
 rw[List.getElem_mapIdx]
 have hx:=h.2 _ (List.getElem_mem hi)
 split
 ·unfold Ev.up
  repeat' split
  all_goals first|exact⟨by simp only[Ev.upE,List.length_map];exact hx.1,hx.2.1,hx.2.2⟩|exact⟨by decide,by decide,by decide⟩
 ·exact hx
theorem Pa.up_small {st ha:Int} {p:Pa} (h:p.small):(p.up st ha).small:=by
 refine⟨fun c hc=>?_,h.dyns⟩
 simp only[Pa.up] at hc
 obtain⟨b,hb,rfl⟩:=List.getElem_of_mem hc
 rw[qJ]
 have hb':=hb
 rw[kN] at hb'
 have hx:=h.voices _ (List.getElem_mem hb')
 refine⟨by rw[List.length_mapIdx];exact hx.1,fun v hv=>?_⟩
 obtain⟨i,hi,rfl⟩:=List.getElem_of_mem hv
 simp only[List.length_mapIdx] at hi
 rw[List.getElem_mapIdx]
 exact aPq (hx.2 _ (List.getElem_mem hi))
theorem Ba.up_ok {st ha:Int} {b:Ba} (h:b.ok):(b.up st ha).ok:=⟨h.groups,h.num,h.den,h.tempos,h.at_⟩
def oQ (n st ha:Int):aH:=⟨8,n,0,0,0,0,[],[],[],[], -st, -ha,⟨#[]⟩⟩
def qM (s:Sc) (j:Nat) (st ha:Int):Sc:= {s with parts:=jX s.parts j (gU st ha (fun _ _ _=>true) (s.parts.getD j pa0).cells)}
def keysOf (ps:List Pa):List Nat:=20::(TZ ps).map (·.1)
theorem Ub: ∀(K:Nat) (l:List (List AV)),(hC (dW K l)).map (·.1)=List.range' K l.length
 |K,[]=>rfl
 |K,x::l=>by
  have:=Ub (K+1) l
  simp only[dW,hC,List.map_cons,List.length_cons,List.range'_succ] at this ⊢
  rw[this]
theorem aBs {ps:List Pa}:(TZ ps).map (·.1)=List.range' 22 (2*ps.length)++List.range' 1020 (fM dJ ps):=by
 rw[TZ,List.map_append,Ub,Ub,iQ,rY]
theorem aC6 {ps:List Pa} (hok:tH ps) {k:Nat}:(keysOf ps).contains k=true->k=20\/22<=k/\k<1000000:=by
 intro h
 have h1:=hok.n
 have h2:=hok.c
 rw[List.contains_iff_mem,keysOf,aBs] at h
 simp only[List.mem_cons,List.mem_append,List.mem_range'_1] at h
 omega
theorem Qa {ps:List Pa}:hsel (keysOf ps) (iU (TZ ps))=iU (TZ ps)/\hkeep (keysOf ps) (iU (TZ ps))=[]:=by
 have hx: ∀x∈iU (TZ ps),(keysOf ps).contains x.1=true:=fun x hx=>by
  obtain⟨y,hy,rfl⟩:=List.mem_map.1 hx
  rw[List.contains_iff_mem]
  exact List.mem_cons_of_mem _ (List.mem_map.2 ⟨y,hy,rfl⟩)
 exact⟨List.filter_eq_self.2 fun x h=>hx x h,List.filter_eq_nil_iff.2 fun x h=>by rw[hx x h];decide⟩
theorem y8 {ps ps':List Pa} (h1:ps'.length=ps.length) (h2:fM dJ ps'=fM dJ ps) {n:Nat} {b:aI}:(((20,b)::TZ ps').all fun x=>(keysOf ps).contains x.1||decide (n<=x.1))=true:=by
 rw[List.all_eq_true]
 intro x hx
 rw[Bool.or_eq_true]
 refine .inl ?_
 rw[List.contains_iff_mem,keysOf,aBs,<-h1,<-h2,<-aBs]
 exact List.mem_map.2 ⟨x,hx,rfl⟩
theorem aAa (ps:List Pa) (hok:tH ps) (j:Nat) (hj:j<ps.length) (cs:List (List Vo)) (hcs:ps[j].cells=cs) (hl:cs.length<=1000000) (hl2: ∀c∈cs,c.length<=1000000/\ ∀v∈c,v.small) (st ha:Int) {F:Fence} (hF:Free F) (hro:F.round=none) {W:World} {st0:St} (h0:Sub st0 ⟨(20,.cells (cZ 22 ps))::TZ ps,3000000⟩):
  aP F Tryz.prog gl W 64 [.ptr 20 (j*5),uK st ha] (fun u su=>u= .int .i64 (eY st ha cs)/\su=⟨(20,.cells (cZ 22 ps))::(if eY st ha cs=0 then TZ (jX ps j (gU st ha (fun _ _ _=>true) cs)) else []),4000000⟩) st0:=by
 refine aP.pre h0 (aP.post (aP.mono' (aLn ps hok j hj cs hcs hl hl2 st ha hF hro) ?_))
 rintro v su ⟨h1,h2,h3,h4⟩
 refine⟨_,⟨h2,fun k b hk=>?_⟩,h1,rfl⟩
 simp only[St.hp] at hk ⊢
 revert hk
 refine aB h3 (fun k b hk=>?_) k b
 split at hk
 ·rename_i e;exact h4 e k b hk
 ·cases hk
theorem aVw (s:Sc) (o:aH) (hk:o.kind=8) (hs:s.small) (hg:s.goodU dJ) (hokP:tH s.parts) (j:Nat) (hj:j<s.parts.length) (hoj:o.part=(j:Nat)) (cs:List (List Vo)) (hcs:s.parts[j].cells=cs) (hl:cs.length<=1000000) (hb: -70<=o.steps/\o.steps<=70/\ -120<=o.halves/\o.halves<=120) {F:Fence} (hF:Free F) (hro:F.round=none) {W:World}:aP F Tryz.prog gl W 25 [.ptr 2000024 0] (MK s o (fun v=>v=if eY o.steps o.halves cs=0 then uU (qM s j o.steps o.halves) (oQ j o.steps o.halves).av else errR (eY o.steps o.halves cs))) ⟨iD dJ s o,2000068⟩:=by
 have hT:=sQ s hg
 have hps:=hs.parts _ (List.getElem_mem hj)
 have hrw:=fun {st0}=>aAa s.parts hokP j hj cs hcs hl (fun c hc=>hps.voices c (by rw[hcs];exact hc)) o.steps o.halves hF hro (W:=W) (st0:=st0)
 have hpl:(cZ 22 s.parts).length=s.parts.length*5:=kW _ _
 rw[iD,eU,eG]
 rw[aE4] at hT ⊢
 obtain⟨T,hTe⟩: ∃T,TZ s.parts=T:=⟨_,rfl⟩
 rw[hTe] at hT hrw ⊢
 have bT:PLift (TZ s.parts=T):=⟨hTe⟩
 clear hTe
 have hw1:IntKind.i64.wrap (0 - o.steps)= -o.steps:=by rw[wrap_in (by omega),Int.zero_sub]
 have hw2:IntKind.i64.wrap (0 - o.halves)= -o.halves:=by rw[wrap_in (by omega),Int.zero_sub]
 have k1:((j:Nat):Int)< ((s.parts.length:Nat):Int):=by omega
 have hmx:(if decide (((j:Nat):Int)< -1)=true then(-1:Int) else((j:Nat):Int))=((j:Nat):Int):=by rw[decide_eq_false (by omega)];rfl
 have hdT: ∀n,1000000<=n->hdel T n=T:=fun n h=>gY (hT.hi n h)
 have hd1:decide (o.steps< -70)=false:=decide_eq_false (by omega)
 have hd2:decide (o.steps>70)=false:=decide_eq_false (by omega)
 have hd3:decide (o.halves< -120)=false:=decide_eq_false (by omega)
 have hd4:decide (o.halves>120)=false:=decide_eq_false (by omega)
 have hd5:decide (((j:Nat):Int)>=0)=true:=decide_eq_true (by omega)
 simp only[uK] at hrw
 obtain⟨R,hR⟩: ∃R,keysOf s.parts=R:=⟨_,rfl⟩
 obtain⟨hs1,hs2⟩:=Qa (ps:=s.parts)
 have r0:=fun {k}=>aC6 hokP (k:=k)
 have r20:(keysOf s.parts).contains 20=true:=List.contains_iff_mem.2 (List.mem_cons_self ..)
 have hal:=fun {n b}=>y8 (ps:=s.parts) (ps':=jX s.parts j (gU o.steps o.halves (fun _ _ _=>true) cs)) (by rw[jX,List.length_set]) (by rw[jX,Qy _ _ _ hj (by rw[aAz,hcs])]) (n:=n) (b:=b)
 have hal0: ∀n b,(((20,b)::([]:List (Nat×aI))).all fun x=>(keysOf s.parts).contains x.1||decide (n<=x.1))=true:=fun n b=>by simp only[List.all_cons,List.all_nil,r20,Bool.true_or,Bool.and_self]
 rw[bT.down,hR] at hs1 hs2
 rw[hR] at r20
 rw[hR] at hal hal0 r0
 clear hR
 have r1: ∀n,n<20->R.contains n=false:=fun n h=>by
  cases e:R.contains n with
  |false=>rfl
  |true=>have:=r0 e;omega
 have r2: ∀n,1000000<=n->R.contains n=false:=fun n h=>by
  cases e:R.contains n with
  |false=>rfl
  |true=>have:=r0 e;omega
 have r3:R.contains 21=false:=by
  cases e:R.contains 21 with
  |false=>rfl
  |true=>have:=r0 e;omega
 clear r0
 obtain⟨Z,hZ⟩: ∃Z,(if eY o.steps o.halves cs=0 then TZ (jX s.parts j (gU o.steps o.halves (fun _ _ _=>true) cs)) else [])=Z:=⟨_,rfl⟩
 rw[hZ] at hrw
 have halZ: ∀n b,(((20,b)::Z).all fun x=>R.contains x.1||decide (n<=x.1))=true:=fun n b=>by
  rw[<-hZ]
  split
  ·exact hal
  ·exact hal0 n b
 have bZ:PLift ((if eY o.steps o.halves cs=0 then TZ (jX s.parts j (gU o.steps o.halves (fun _ _ _=>true) cs)) else [])=Z):=⟨hZ⟩
 clear hZ hal hal0
 (refine aP.introZ hF hro 3 mix names (fn:=Tryz.f25) Tryz.func25 rfl ?_;simp only[Tryz.ntmps25,Tryz.results25,aJ,Nat.reduceAdd,Nat.reduceSub])
 repeat' (first
  |simp -implicitDefEqProofs (maxSteps:=9999999) only[↓reduceIte,aA,aC,facts,Nat.reduceAdd,Nat.reduceEqDiff,Nat.reduceLT,Nat.reduceLeDiff,Int.reduceNeg,List.flatMap_cons,List.flatMap_nil,AV.cells,AV.one,wH,nD,aH.cells13,hoj,fV,eF,Int.natCast_nonneg,bF,aU,aV,dA,aW, *]
  |((with_reducible refine dG 64 ?_);refine kH R (st0:=⟨(20,.cells (cZ 22 s.parts))::T,2000138⟩) (by simp only[nZ,qB,qA,r1,r2,r3,r20,hs1,jA,eF,Nat.reduceLT,Nat.reduceLeDiff,↓reduceIte,Bool.false_eq_true,Nat.reduceAdd]) (hrw ⟨by simp only[Nat.reduceLeDiff],fun k b h=>h⟩) (halZ _ _) (by simp only[Nat.reduceLeDiff]) ?_)
  |((with_reducible refine iP (fun _=>?_) (fun _=>?_))<;>try omega)
  |((with_reducible refine aO ?_);refine bM (by decide+kernel) ?_)
  |((with_reducible refine dP ?_ ?_);· decide+kernel)
  |((with_reducible refine dP ?_ ?_);· kernel_rfl))
 by_cases hre:eY o.steps o.halves cs=0
 ·have hZe:=bZ.down
  rw[if_pos hre] at hZe
  have hokW:tH (jX s.parts j (gU o.steps o.halves (fun _ _ _=>true) cs)):=aGx hokP hj (by rw[aAz,hcs])
  have hTW:=yJ hokW
  have hAW:=aEa hokW
  have hgd:s.parts.getD j pa0=s.parts[j]:=tZ hj
  have hpe:(qM s j o.steps o.halves).parts=jX s.parts j (gU o.steps o.halves (fun _ _ _=>true) cs):=by rw[qM,hgd,hcs]
  have hlen:(qM s j o.steps o.halves).parts.length=s.parts.length:=by rw[hpe,jX,List.length_set]
  have htop:cZ 22 (qM s j o.steps o.halves).parts=cZ 22 s.parts:=by
   rw[hpe,jX,hgd]
   exact zJ 22 s.parts j _ hj rfl rfl rfl (by rw[<-hcs];exact kN) rfl
  rw[if_pos hre,show(oQ (j:Nat) o.steps o.halves).av=AV.agg (.int .i64 (if(0:Int)=0 then o.kind else 0)::[.int .i64 (j:Nat),.int .i64 0,.int .i64 0,.int .i64 0,.int .i64 0,.sl 9 [] .none,.sl 14 [] .none,.sl 1 [] .none,.sl 1 [] .none,.int .i64 (-o.steps),.int .i64 (-o.halves),.str ⟨#[]⟩]) from by rw[if_pos rfl,hk];rfl]
  refine⟨0,by rw[hre],.inr ⟨rfl,.str s.title,.msl 21 0 s.bars.length 14,.msl 20 0 (qM s j o.steps o.halves).parts.length 5,0,.int .i64 (j:Nat),.int .i64 0,.int .i64 0,.int .i64 0,.int .i64 0,.sl 9 [] .full,.sl 14 [] .full,.sl 1 [] .full,.sl 1 [] .full,.int .i64 (-o.steps),.int .i64 (-o.halves),.str ⟨#[]⟩,(20,.cells (cZ 22 (qM s j o.steps o.halves).parts))::(21,.cells (s.bars.flatMap Ba.cells))::TZ (qM s j o.steps o.halves).parts,⟨by simp only[Nat.reduceLeDiff],?_⟩,
   Xx (s':=qM s j o.steps o.halves) (T:=TZ (qM s j o.steps o.halves).parts) (fun k b h=>by rw[hpe] at h;have:=hTW.mem h;omega) (by rw[hlen];exact hokP.n) (fun hp h=>⟨fun i hi=>?_,rfl⟩) ⟨hs.bars,fun p hp=>?_,hs.nbars,by rw[hlen];exact hs.nparts⟩ (by simp [AV.one])⟩⟩
  ·rw[hlen,htop,hpe]
   simp only[St.hp,eU,eG,aH.cells13,hk,hoj,List.cons_append,List.nil_append]
   refine aB (by simp [hget]) (aB (by simp [hget]) (aB (by simp [hget]) (aB (by simp [hget]) (aB (by simp [hget]) (aB (by simp [hget]) (aB (by simp [hget]) (aB (by simp [hget]) fun k b h=>?_)))))))
   have hmm:=hTW.mem h
   repeat rw[bD (by omega)]
   rw[iT,if_neg (by omega),iT,if_neg (by omega),<-hZe]
   exact h
  ·rw[hpe] at h
   simp only[hpe] at hi ⊢
   exact(hAW.mono h).pa (by omega) i hi
  ·rw[hpe,jX] at hp
   rcases List.mem_or_eq_of_mem_set hp with h|h
   ·exact hs.parts p h
   ·subst h
    rw[hgd,<-hcs]
    exact Pa.up_small hps
 ·rw[if_neg hre]
  refine jK hre (by simp only[Nat.reduceLeDiff]) rfl ?_
  simp only[eU,eG,aH.cells13,hk,hoj]
  exact aB (by simp [hget]) (aB (by simp [hget]) (aB (by simp [hget]) (aB (by simp [hget]) (aB (by simp [hget]) fun k b h=>by cases h))))
theorem aQk {α:Type} {c:α->List AV} {k:Nat} (h: ∀x,(c x).length=k) (l:List α) (i:Nat) (hi:i<l.length): ∃P Q,P.length=i*k/\ ∀y,(l.set i y).flatMap c=P++(c y++Q):=by
 refine⟨(l.take i).flatMap c,(l.drop (i+1)).flatMap c,by rw[flat_length h,List.length_take,Nat.min_eq_left (by omega)],fun y=>?_⟩
 rw[List.set_eq_take_append_cons_drop,if_pos hi,List.flatMap_append,List.flatMap_cons]
theorem aQl {α:Type} {c:α->List AV} {k:Nat} (h: ∀x,(c x).length=k) (l:List α) (i:Nat) (hi:i<l.length) {a n:Nat} {p m q:List AV} (hc:c l[i]=p++(m++q)) (ha:p.length=a) (hn:m.length=n):
  List.take n (List.drop (i*k+a) (l.flatMap c))=m/\ ∀y m',c y=p++(m'++q)->List.take (i*k+a) (l.flatMap c)++m'++List.drop (i*k+a+n) (l.flatMap c)=(l.set i y).flatMap c:=by
 obtain⟨P,Q,hP,hy⟩:=aQk h l i hi
 have e:l.flatMap c=(P++p)++(m++(q++Q)):=by
  have:=hy l[i]
  rw[List.set_getElem_self] at this
  rw[this,hc];simp only[List.append_assoc]
 have hl:(P++p).length=i*k+a:=by rw[List.length_append,hP,ha]
 have hl2:((P++p)++m).length=i*k+a+n:=by rw[List.length_append,hl,hn]
 refine⟨by rw[e,List.drop_left' hl,List.take_left' hn],fun y m' hm=>?_⟩
 rw[hy y,hm]
 conv=>lhs;rw[e]
 rw[List.take_left' hl,show(P++p)++(m++(q++Q))=((P++p)++m)++(q++Q) by simp only[List.append_assoc],List.drop_left' hl2]
 simp only[List.append_assoc]
theorem keysR {ps:List Pa} (hok:tH ps) {j:Nat} (hj:j<ps.length) {cs:List (List Vo)} (hcs:ps[j].cells=cs) {st ha:Int} {Z:List (Nat×aI)} (hZ:(if eY st ha cs=0 then TZ (jX ps j (gU st ha (fun _ _ _=>true) cs)) else [])=Z):
  ∃R:List Nat,(∀n,n<20->R.contains n=false)/\(∀n,1000000<=n->R.contains n=false)/\R.contains 21=false/\R.contains 20=true/\hsel R (iU (TZ ps))=iU (TZ ps)/\hkeep R (iU (TZ ps))=[]/\ ∀n b,(((20,b)::Z).all fun x=>R.contains x.1||decide (n<=x.1))=true:=by
 have r0:=fun {k}=>aC6 hok (k:=k)
 refine⟨keysOf ps,fun n h=>?_,fun n h=>?_,?_,List.contains_iff_mem.2 (List.mem_cons_self ..),Qa.1,Qa.2,fun n b=>?_⟩
 ·cases e:(keysOf ps).contains n with
  |false=>rfl
  |true=>have:=r0 e;omega
 ·cases e:(keysOf ps).contains n with
  |false=>rfl
  |true=>have:=r0 e;omega
 ·cases e:(keysOf ps).contains 21 with
  |false=>rfl
  |true=>have:=r0 e;omega
 ·rw[<-hZ]
  split
  ·exact y8 (ps:=ps) (ps':=jX ps j (gU st ha (fun _ _ _=>true) cs)) (by rw[jX,List.length_set]) (by rw[jX,Qy _ _ _ hj (by rw[aAz,hcs])])
  ·have r20:(keysOf ps).contains 20=true:=List.contains_iff_mem.2 (List.mem_cons_self ..)
   simp only[List.all_cons,List.all_nil,r20,Bool.true_or,Bool.and_self]
def qL (s:Sc) (st ha:Int):Sc:= {s with bars:=s.bars.map (Ba.up st ha),parts:=s.parts.map (Pa.up st ha)}
def rF (s:Sc) (st ha:Int):Int:=if sW (keyE st ha) s.bars=0 then sW (Rf st ha) s.parts else sW (keyE st ha) s.bars
def cells8 (o:aH):List AV:=[.int .i64 8,.int .i64 o.part,.int .i64 o.bar,.int .i64 o.voice,.int .i64 o.at_,.int .i64 o.count,.sl 9 (o.events.map Ev.av) .none,.sl 14 (o.bars.map Ba.av) .none,.sl 1 (o.cells.map dM) .none,.sl 1 (o.dyns.map dV) .none,.int .i64 o.steps,.int .i64 o.halves,.str o.text]
def yM (s:Sc) (o:aH) (B:List Ba):List (Nat×aI):=[(2000081,.cells [.int .i64 o.steps,.int .i64 o.halves]),(2000024,.cells (.str s.title:: .msl 21 0 s.bars.length 14:: .msl 20 0 s.parts.length 5::(cells8 o++[.int .i64 0,.int .i64 (-1),.int .i64 0,.int .i64 0,.int .i64 0,.int .i64 0,.sl 9 [] .full,.sl 14 [] .full,.sl 1 [] .full,.sl 1 [] .full,.int .i64 (-o.steps),.int .i64 (-o.halves),.str ⟨#[]⟩]))),
 (20,.cells (cZ 22 s.parts)),(21,.cells (B.flatMap Ba.cells)),(9,.cells [.int .i64 s.checkR.1.1,.int .i64 s.checkR.1.2.1,.int .i64 s.checkR.1.2.2.1,.int .i64 s.checkR.1.2.2.2]),(3,.cells eG),(2,.cells [.str ⟨#[]⟩,.sl 14 [] .full,.sl 5 [] .full]),(1,.cells (cells8 o)),(0,.cells [.str s.title,.sl 14 (s.bars.map Ba.av) .none,.sl 5 (s.parts.map Pa.av) .none])]
theorem Zo {f:Nat->Option Nat} {h:List (Nat×aI)} {s:Sc} {o:aH} {B:List Ba} {T:List (Nat×aI)} (hn:s.parts.length<=400) (hf: ∀k,k<=2000100->f k=some k) (hh: ∀k b,hget (yM s o B) k=some b->hget h k=some b) (hT:aG f h T):aG f h (yM s o B++T):=by
 have f20:=hf 20 (by decide)
 have f21:=hf 21 (by decide)
 refine aG.app (aG.cons 2000081 (hh _ _ rfl) (hf _ (by decide)) rfl (aG.cons 2000024 (hh _ _ rfl) (hf _ (by decide)) ?_ (aG.cons 20 (hh _ _ rfl) f20 (mP 22 22 s.parts fun q hq=>hf _ (by omega)) (aG.cons 21 (hh _ _ rfl) f21 (nT _) (aG.cons 9 (hh _ _ rfl) (hf _ (by decide)) rfl (aG.cons 3 (hh _ _ rfl) (hf _ (by decide)) rfl (aG.cons 2 (hh _ _ rfl) (hf _ (by decide)) rfl (aG.cons 1 (hh _ _ rfl) (hf _ (by decide)) rfl (aG.cons 0 (hh _ _ rfl) (hf _ (by decide)) rfl aG.nil))))))))) hT
 simp [cells8,AV.ren,f20,f21]
theorem aVr {s:Sc} {o:aH} {B:List Ba} {T:List (Nat×aI)} {k:Nat} (h1:21<k) (h2:k<2000000):hget (yM s o B++T) k=hget T k:=by
 simp only[yM,List.cons_append,List.nil_append]
 repeat rw[bD (by omega)]
theorem aVs (s:Sc) (o:aH) (hk:o.kind=8) (hs:s.small) (hg:s.goodU dJ) (hokP:tH s.parts) (hop:o.part<0) (hl: ∀p∈s.parts,p.cells.length<=1000000) (hb: -70<=o.steps/\o.steps<=70/\ -120<=o.halves/\o.halves<=120) {F:Fence} (hF:Free F) (hro:F.round=none) {W:World}:aP F Tryz.prog gl W 25 [.ptr 2000024 0] (MK s o (fun v=>v=if rF s o.steps o.halves=0 then uU (qL s o.steps o.halves) (oQ (-1) o.steps o.halves).av else errR (rF s o.steps o.halves))) ⟨iD dJ s o,2000068⟩:=by
  have hT:=sQ s hg
  have hpl:(cZ 22 s.parts).length=s.parts.length*5:=kW _ _
  have hbl:(s.bars.flatMap Ba.cells).length=s.bars.length*14:=flat_length (k:=14) (fun _=>rfl) _
  have hbn:=hs.nbars
  rw[iD,eU,eG]
  rw[aE4] at hT ⊢
  obtain⟨T,hTe⟩: ∃T,TZ s.parts=T:=⟨_,rfl⟩
  rw[hTe] at hT ⊢
  have bT:PLift (TZ s.parts=T):=⟨hTe⟩
  clear hTe
  have hw1:IntKind.i64.wrap (0 - o.steps)= -o.steps:=by rw[wrap_in (by omega),Int.zero_sub]
  have hw2:IntKind.i64.wrap (0 - o.halves)= -o.halves:=by rw[wrap_in (by omega),Int.zero_sub]
  have hmx:(if decide (o.part< -1)=true then(-1:Int) else o.part)= -1:=by
    split
    · rfl
    · rename_i h;simp at h;omega
  have hdT: ∀n,1000000<=n->hdel T n=T:=fun n h=>gY (hT.hi n h)
  have hd1:decide (o.steps< -70)=false:=decide_eq_false (by omega)
  have hd2:decide (o.steps>70)=false:=decide_eq_false (by omega)
  have hd3:decide (o.halves< -120)=false:=decide_eq_false (by omega)
  have hd4:decide (o.halves>120)=false:=decide_eq_false (by omega)
  have hd5:decide ((-1:Int)>=((s.parts.length:Nat):Int))=false:=decide_eq_false (by omega)
  (refine aP.introZ hF hro 3 mix names (fn:=Tryz.f25) Tryz.func25 rfl ?_;simp only[Tryz.ntmps25,Tryz.results25,aJ,Nat.reduceAdd,Nat.reduceSub])
  repeat' (first
    |simp -implicitDefEqProofs (maxSteps:=9999999) only[↓reduceIte,aA,aC,facts,Nat.reduceAdd,Nat.reduceEqDiff,Nat.reduceLeDiff,Int.reduceGE,Int.reduceNeg,List.flatMap_cons,List.flatMap_nil,AV.cells,AV.one,aH.cells13,fV,eF,bF,aU,aV,dA,aW, *]
    |((with_reducible refine aO ?_);refine bM (by decide+kernel) ?_)
    |((with_reducible refine dP ?_ ?_);· decide+kernel))
  have h0: ∀k b,hget (yM s o s.bars) k=some b->hget (yM s o s.bars++T) k=some b:=fun k b h=>by rw[bV,h]
  refine jU (fE 132 [0,3,79,80]) 2000200 s.bars.length (fun i (_:Unit)=>⟨[.ptr 2000024 0,.ud,.ud,.ptr 2000081 0,.ud,.ud,.ud,.ud,.ud,.ud,.ud,.ud,.ud,.ud,.ud,.ud,.ud,.ud,.ud,.ud,.ud,.ud,.ud,.ud,.ud,.ud,.ud,.ud,.ud,.ud,.ud,.ud,.ud,.ud,.ud,.ud,.ud,.ud,.ud,.ud,.ud,.ud,.ud,.ud,.ud,.ud,.ud,.ud,.ud,.ud,.ud,.ud,.ud,.ud,.ud,.ud,.ud,.ud,.ud,.ud,.ud,.ud,.ud,.ud,.ud,.ud,.ud,.ud,.ud,.ud,.ud,.ud,.ud,.ud,.ud,.ud,.ud,.ud,.ud,.int .i64 (s.bars.length:Nat),.int .i64 (i:Nat),.ud,.ud,.ud,.ud,.ud,.ud,.ud,.ud,.ud,.ud,.ud,.ud,.ud,.ud,.ud,.ud,.ud,.ud,.ud,.ud,.ud,.ud,.ud,.ud,.ud,.ud,.ud,.ud,.ud,.ud,.ud,.ud,.ud,.ud,.ud,.ud,.ud,.ud,.ud,.ud,.ud,.ud,.ud,.ud,.ud,.ud,.ud,.ud,.ud,.ud,.ud],[]⟩) (fun i _=>⟨yM s o (mF (Ba.up o.steps o.halves) i s.bars)++T,2000200⟩) (fun i _=>i<1000001/\ ∀j (h:j<s.bars.length),j<i->keyE o.steps o.halves s.bars[j]=0) ⟨(),⟨by omega,fun j h hj=>by omega⟩,bI 2000135 [],gK 2000135 [],dH.of_fit rfl rfl rfl,Zo hokP.n (fun k hk=>if_pos (by omega)) h0 ?_,rfl,rfl⟩ ?_
  · rw[<-bT.down]
    refine yA hokP (fun k hk=>if_pos (by omega)) fun k b hk=>?_
    have:=(yJ hokP).mem hk
    exact(aVr (by omega) (by omega)).trans hk
  rintro i x hi ⟨hi2,hQ⟩
  rcases Nat.lt_or_ge i s.bars.length with hlt|hge
  · have hil:i< (mF (Ba.up o.steps o.halves) i s.bars).length:=by rw[wM];exact hlt
    have hat:=uM (f:=Ba.up o.steps o.halves) hlt hil
    have hnext:=Oh (f:=Ba.up o.steps o.halves) hlt
    have hbl2:((mF (Ba.up o.steps o.halves) i s.bars).flatMap Ba.cells).length=s.bars.length*14:=by rw[flat_length (k:=14) (fun _=>rfl),wM]
    obtain⟨y,hy⟩: ∃y,s.bars[i]=y:=⟨_,rfl⟩
    rw[hy] at hat hnext
    obtain⟨hd,hput⟩:=aQl (c:=Ba.cells) (k:=14) (fun _=>rfl) (mF (Ba.up o.steps o.halves) i s.bars) i hil (a:=3) (n:=2) (p:=y.cells.take 3) (m:=[.int .i64 y.key.fifths,.bool y.key.minor]) (q:=y.cells.drop 5) (by rw[hat];rfl) rfl rfl
    have hp:=hput (Ba.up o.steps o.halves y) [.int .i64 (y.key.up o.steps o.halves).1.fifths,.bool (y.key.up o.steps o.halves).1.minor] rfl
    rw[hnext] at hp
    have hkm:=aJn y.key o.steps o.halves hb
    obtain⟨u,z,hux⟩: ∃u z,y.key.up o.steps o.halves=(u,z):=⟨_,_,rfl⟩
    rw[hux] at hp hkm
    clear hput hat hnext
    obtain⟨B,hB⟩: ∃B,(mF (Ba.up o.steps o.halves) i s.bars).flatMap Ba.cells=B:=⟨_,rfl⟩
    rw[hB] at hd hp hbl2
    simp only[Ke.av,uK] at hkm
    have k1:((i:Nat):Int)< ((s.bars.length:Nat):Int):=by omega
    have k2:i*14+3<=s.bars.length*14:=by omega
    have k3:i*14+5<=s.bars.length*14:=by omega
    have k4:2<=s.bars.length*14 - (i*14+3):=by omega
    simp only[yM,hB]
    repeat' (first
    |simp -implicitDefEqProofs (maxSteps:=9999999) only[↓reduceIte,aA,aC,facts,Nat.reduceAdd,Nat.reduceEqDiff,Nat.reduceLeDiff,Int.reduceNeg,AV.cells,AV.one,cells8,fV,eF,List.length_drop,Int.natCast_nonneg,rE,bF,aU,aV,dA,aW, *]
    |((with_reducible refine dG 65 ?_);refine bW hkm (rfl) ?_)
    |((with_reducible refine dL (fun _=>?_) (fun _=>?_))<;>try omega)
    |((with_reducible refine aO ?_);refine bM (by decide+kernel) ?_)
    |((with_reducible refine dP ?_ ?_);· decide+kernel))
    · have hz:z≠0:=by intro h;simp_all
      have hx:keyE o.steps o.halves s.bars[i]=z:=by rw[hy,keyE,hux]
      have hfe:=aCb hlt hQ (by rw[hx];exact hz)
      rw[hx] at hfe
      have hne:rF s o.steps o.halves=z:=by rw[rF,if_neg (by rw[hfe];exact hz),hfe]
      rw[hne,if_neg hz]
      refine jK hz (by simp only[Nat.reduceLeDiff]) rfl ?_
      simp only[eU,eG,aH.cells13,hk]
      exact aB (by simp [hget]) (aB (by simp [hget]) (aB (by simp [hget]) (aB (by simp [hget]) (aB (by simp [hget]) fun k b h=>by cases h))))
    · have hz:z=0:=by simp_all
      have hx:keyE o.steps o.halves s.bars[i]=0:=by rw[hy,keyE,hux];exact hz
      have hQ2:i+1<1000001/\ ∀j (h:j<s.bars.length),j<i+1->keyE o.steps o.halves s.bars[j]=0:=⟨by omega,fun j h hj=>by
        rcases Nat.lt_or_ge j i with h9|h9
        · exact hQ j h h9
        · have:j=i:=by omega
          subst this
          exact hx⟩
      have hwr:IntKind.i64.wrap ((i:Int)+1)=(i:Int)+1:=wrap_in (by omega)
      refine dN i () hlt rfl hQ2 (bI 2000135 []) (gK 2000135 []) (dH.of_fit rfl rfl rfl) (Zo hokP.n (fun k hk=>if_pos (by omega)) (fun k b h=>?_) ?_) rfl ?_
      · revert h
        simp only[yM]
        exact aB (by simp [hget]) (aB (by simp [hget,cells8]) (aB (by simp [hget]) (aB (by simp [hget]) (aB (by simp [hget]) (aB (by simp [hget]) (aB (by simp [hget]) (aB (by simp [hget,cells8]) (aB (by simp [hget]) fun k b h=>by cases h)))))))) k b
      · rw[<-bT.down]
        refine yA hokP (fun k hk=>if_pos (by omega)) fun k b hk=>?_
        have:=(yJ hokP).mem hk
        repeat rw[bD (by omega)]
        exact hk
      · simp [Fr.renF,kE,fE,tC,Nat.beq,AV.ren,bI,hwr]
  · have he :i=s.bars.length:=by omega
    subst he
    have hk0:=Xn (f:=keyE o.steps o.halves) (l:=s.bars) fun j h=>hQ j h h
    have hne:rF s o.steps o.halves=sW (Rf o.steps o.halves) s.parts:=by rw[rF,if_pos hk0]
    rw[hne,aCc]
    clear hQ hne hk0 hi2 hge hi
    simp only[yM]
    repeat' (first
    |simp -implicitDefEqProofs (maxSteps:=9999999) only[↓reduceIte,aA,aC,facts,Nat.reduceAdd,Nat.reduceEqDiff,Nat.reduceLeDiff,Int.reduceNeg,cells8,aT, *]
    |((with_reducible refine aF (fun _=>?_) (fun _=>?_))<;>try omega))
    refine jU (fE 132 [0,3,115,116]) 2000400 s.parts.length (fun i (_:Unit)=>⟨[.ptr 2000024 0,.ud,.ud,.ptr 2000081 0,.ud,.ud,.ud,.ud,.ud,.ud,.ud,.ud,.ud,.ud,.ud,.ud,.ud,.ud,.ud,.ud,.ud,.ud,.ud,.ud,.ud,.ud,.ud,.ud,.ud,.ud,.ud,.ud,.ud,.ud,.ud,.ud,.ud,.ud,.ud,.ud,.ud,.ud,.ud,.ud,.ud,.ud,.ud,.ud,.ud,.ud,.ud,.ud,.ud,.ud,.ud,.ud,.ud,.ud,.ud,.ud,.ud,.ud,.ud,.ud,.ud,.ud,.ud,.ud,.ud,.ud,.ud,.ud,.ud,.ud,.ud,.ud,.ud,.ud,.ud,.ud,.ud,.ud,.ud,.ud,.ud,.ud,.ud,.ud,.ud,.ud,.ud,.ud,.ud,.ud,.ud,.ud,.ud,.ud,.ud,.ud,.ud,.ud,.ud,.ud,.ud,.ud,.ud,.ud,.ud,.ud,.ud,.ud,.ud,.ud,.ud,.int .i64 (s.parts.length:Nat),.int .i64 (i:Nat),.ud,.ud,.ud,.ud,.ud,.ud,.ud,.ud,.ud,.ud,.ud,.ud,.ud,.ud,.ud],[]⟩) (fun i _=>⟨yM s o (s.bars.map (Ba.up o.steps o.halves))++TZ (mF (Pa.up o.steps o.halves) i s.parts),2000400⟩) (fun i _=>i<401/\ ∀j (h:j<s.parts.length),j<i->Rf o.steps o.halves s.parts[j]=0) ⟨(),⟨by omega,fun j h hj=>by omega⟩,bI 2000208 [],gK 2000208 [],dH.of_fit rfl rfl rfl,Zo hokP.n (fun k hk=>if_pos (by omega)) (fun k b h=>?_) ?_,rfl,rfl⟩ ?_
    · revert h
      simp only[yM]
      exact aB (by simp [hget]) (aB (by simp [hget,cells8]) (aB (by simp [hget]) (aB (by simp [hget]) (aB (by simp [hget]) (aB (by simp [hget]) (aB (by simp [hget]) (aB (by simp [hget,cells8]) (aB (by simp [hget]) fun k b h=>by cases h)))))))) k b
    · rw[aS2,<-bT.down]
      refine yA hokP (fun k hk=>if_pos (by omega)) fun k b hk=>?_
      have:=(yJ hokP).mem hk
      repeat rw[bD (by omega)]
      exact hk
    clear h0 hT bT hdT hbl hbn
    rintro j x hj ⟨hj2,hQ⟩
    rcases Nat.lt_or_ge j s.parts.length with hlt|hge
    · obtain⟨ps,hps⟩: ∃ps,mF (Pa.up o.steps o.halves) j s.parts=ps:=⟨_,rfl⟩
      have hokj:=Vk (st:=o.steps) (ha:=o.halves) hokP j (by omega)
      have htop:=Xo (st:=o.steps) (ha:=o.halves) (R:=22) (ps:=s.parts) j (by omega)
      have hnx:=aCd (st:=o.steps) (ha:=o.halves) hlt
      have hjl:j<ps.length:=by rw[<-hps,wM];exact hlt
      have hcj:ps[j].cells=s.parts[j].cells:=by simp only[<-hps];rw[uM hlt]
      obtain⟨cs,hcs⟩: ∃cs,s.parts[j].cells=cs:=⟨_,rfl⟩
      have hpsm:=hs.parts _ (List.getElem_mem hlt)
      have hlc:=hl _ (List.getElem_mem hlt)
      rw[hcs] at hcj hnx hlc
      rw[hps] at hokj htop hnx ⊢
      have hT:=yJ hokj
      have hrw:=fun {st0}=>aAa ps hokj j hjl cs hcj hlc (fun c hc=>hpsm.voices c (by rw[hcs];exact hc)) o.steps o.halves hF hro (W:=W) (st0:=st0)
      obtain⟨Z,hZ⟩: ∃Z,(if eY o.steps o.halves cs=0 then TZ (jX ps j (gU o.steps o.halves (fun _ _ _=>true) cs)) else [])=Z:=⟨_,rfl⟩
      obtain⟨R,r1,r2,r3,r20,hs1,hs2,halZ⟩:=keysR hokj hjl hcj hZ
      rw[hZ,htop] at hrw
      have bps:PLift (mF (Pa.up o.steps o.halves) j s.parts=ps):=⟨hps⟩
      have bZ:PLift ((if eY o.steps o.halves cs=0 then TZ (jX ps j (gU o.steps o.halves (fun _ _ _=>true) cs)) else [])=Z):=⟨hZ⟩
      have bhj:PLift (ps.length=s.parts.length):=⟨by rw[<-hps,wM]⟩
      obtain⟨T,hTe⟩: ∃T,TZ ps=T:=⟨_,rfl⟩
      rw[hTe] at hT hrw hs1 hs2 ⊢
      have hdT: ∀n,1000000<=n->hdel T n=T:=fun n h=>gY (hT.hi n h)
      clear hps hZ hTe
      have k1:((j:Nat):Int)< ((s.parts.length:Nat):Int):=by omega
      simp only[uK] at hrw
      simp only[yM]
      repeat' (first
    |simp -implicitDefEqProofs (maxSteps:=9999999) only[↓reduceIte,aA,aC,facts,Nat.reduceAdd,Nat.reduceEqDiff,Nat.reduceLT,Nat.reduceLeDiff,Int.reduceNeg,wH,nD,cells8,fV,eF,Int.natCast_nonneg,rE,bF,aU,aV,aW, *]
    |((with_reducible refine dG 64 ?_);refine kH R (st0:=⟨(20,.cells (cZ 22 s.parts))::T,2000413⟩) (by simp only[nZ,qB,qA,r1,r2,r3,r20,hs1,jA,eF,Nat.reduceLT,Nat.reduceLeDiff,↓reduceIte,Bool.false_eq_true,Nat.reduceAdd]) (hrw ⟨by simp only[Nat.reduceLeDiff],fun k b h=>h⟩) (halZ _ _) (by simp only[Nat.reduceLeDiff]) ?_)
    |((with_reducible refine dL (fun _=>?_) (fun _=>?_))<;>try omega)
    |((with_reducible refine aO ?_);refine bM (by decide+kernel) ?_)
    | ((with_reducible refine dP ?_ ?_);· kernel_rfl))
      · have hz:eY o.steps o.halves cs≠0:=by
          rename_i h
          intro e;rw[e] at h;exact absurd h (by decide)
        have hx:Rf o.steps o.halves s.parts[j]=eY o.steps o.halves cs:=by rw[Rf,hcs]
        have hfe:=aCb hlt hQ (by rw[hx];exact hz)
        rw[hx] at hfe
        rw[hfe,if_neg hz]
        refine jK hz (by simp only[Nat.reduceLeDiff]) rfl ?_
        simp only[eU,eG,aH.cells13,hk]
        exact aB (by simp [hget]) (aB (by simp [hget]) (aB (by simp [hget]) (aB (by simp [hget]) (aB (by simp [hget]) fun k b h=>by cases h))))
      · have hz:eY o.steps o.halves cs=0:=by
          rename_i h
          simpa using h
        have hx:Rf o.steps o.halves s.parts[j]=0:=by rw[Rf,hcs];exact hz
        have hQ2:j+1<401/\ ∀i (h:i<s.parts.length),i<j+1->Rf o.steps o.halves s.parts[i]=0:=⟨by have:=hokP.n;omega,fun i h hi=>by
          rcases Nat.lt_or_ge i j with h9|h9
          · exact hQ i h h9
          · have:i=j:=by omega
            subst this
            exact hx⟩
        have hZe:=bZ.down
        rw[if_pos hz,hnx] at hZe
        have hokn:=Vk (st:=o.steps) (ha:=o.halves) hokP (j+1) (by omega)
        have hwr:IntKind.i64.wrap ((j:Int)+1)=(j:Int)+1:=wrap_in (by omega)
        refine dN j () hlt rfl hQ2 (bI 2000208 []) (gK 2000208 []) (dH.of_fit rfl rfl rfl) (Zo hokP.n (fun k hk=>if_pos (by omega)) (fun k b h=>?_) ?_) rfl ?_
        · revert h
          simp only[yM]
          exact aB (by simp [hget]) (aB (by simp [hget,cells8]) (aB (by simp [hget]) (aB (by simp [hget]) (aB (by simp [hget]) (aB (by simp [hget]) (aB (by simp [hget]) (aB (by simp [hget,cells8]) (aB (by simp [hget]) fun k b h=>by cases h)))))))) k b
        · rw[<-hZe]
          refine yA hokn (fun k hk=>if_pos (by omega)) fun k b hk=>?_
          have:=(yJ hokn).mem hk
          repeat rw[bD (by omega)]
          rw[iT,if_neg (by omega),iT,if_neg (by omega)]
          exact hk
        · simp [Fr.renF,kE,fE,tC,Nat.beq,AV.ren,bI,hwr]
    · have he:j=s.parts.length:=by omega
      subst he
      have hk0:=Xn (f:=Rf o.steps o.halves) (l:=s.parts) fun j h=>hQ j h h
      have hokn:=Vk (st:=o.steps) (ha:=o.halves) hokP s.parts.length (by omega)
      have htop:=Xo (st:=o.steps) (ha:=o.halves) (R:=22) (ps:=s.parts) s.parts.length (by omega)
      rw[aCc] at hokn htop ⊢
      rw[hk0,if_pos rfl]
      have hpe:(qL s o.steps o.halves).parts=s.parts.map (Pa.up o.steps o.halves):=rfl
      have hbe:(qL s o.steps o.halves).bars=s.bars.map (Ba.up o.steps o.halves):=rfl
      have hTW:=yJ hokn
      have hAW:=aEa hokn
      clear hQ
      simp only[yM]
      repeat' (first
    |simp -implicitDefEqProofs (maxSteps:=9999999) only[↓reduceIte,aA,aC,Nat.reduceAdd,Int.reduceNeg,cells8,aT, *]
    | ((with_reducible refine aF (fun _=>?_) (fun _=>?_))<;>try omega))
      rw[show(oQ (-1) o.steps o.halves).av=AV.agg (.int .i64 (if(0:Int)=0 then o.kind else 0)::[.int .i64 (-1),.int .i64 0,.int .i64 0,.int .i64 0,.int .i64 0,.sl 9 [] .none,.sl 14 [] .none,.sl 1 [] .none,.sl 1 [] .none,.int .i64 (-o.steps),.int .i64 (-o.halves),.str ⟨#[]⟩]) from by rw[if_pos rfl,hk];rfl]
      refine⟨0,rfl,.inr ⟨rfl,.str s.title,.msl 21 0 (qL s o.steps o.halves).bars.length 14,.msl 20 0 (qL s o.steps o.halves).parts.length 5,0,.int .i64 (-1),.int .i64 0,.int .i64 0,.int .i64 0,.int .i64 0,.sl 9 [] .full,.sl 14 [] .full,.sl 1 [] .full,.sl 1 [] .full,.int .i64 (-o.steps),.int .i64 (-o.halves),.str ⟨#[]⟩,(20,.cells (cZ 22 (qL s o.steps o.halves).parts))::(21,.cells ((qL s o.steps o.halves).bars.flatMap Ba.cells))::TZ (qL s o.steps o.halves).parts,⟨by simp only[Nat.reduceLeDiff],?_⟩,
        Xx (s':=qL s o.steps o.halves) (T:=TZ (qL s o.steps o.halves).parts) (fun k b h=>by rw[hpe] at h;have:=hTW.mem h;omega) (by rw[hpe,List.length_map];exact hokP.n) (fun hp h=>⟨fun i hi=>?_,rfl⟩) ⟨fun b hb=>?_,fun p hp=>?_,by rw[hbe,List.length_map];exact hs.nbars,by rw[hpe,List.length_map];exact hs.nparts⟩ (by simp [AV.one])⟩⟩
      · rw[hpe,hbe,htop]
        simp only[St.hp,eU,eG,aH.cells13,hk,List.length_map,List.cons_append,List.nil_append]
        refine aB (by simp [hget]) (aB (by simp [hget]) (aB (by simp [hget]) (aB (by simp [hget]) (aB (by simp [hget]) (aB (by simp [hget]) (aB (by simp [hget]) (aB (by simp [hget]) fun k b h=>?_)))))))
        have hmm:=hTW.mem h
        repeat rw[bD (by omega)]
        exact h
      · rw[hpe] at h
        simp only[hpe] at hi ⊢
        exact(hAW.mono h).pa (by omega) i hi
      · rw[hbe] at hb
        obtain⟨b',hb',rfl⟩:=List.mem_map.1 hb
        exact Ba.up_ok (hs.bars b' hb')
      · rw[hpe] at hp
        obtain⟨p',hp',rfl⟩:=List.mem_map.1 hp
        exact Pa.up_small (hs.parts p' hp')
end Go.Proofs.Pv
