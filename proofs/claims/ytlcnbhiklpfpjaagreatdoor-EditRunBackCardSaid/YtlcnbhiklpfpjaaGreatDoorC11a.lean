/-
Layer 9's edits: copies of cells of which all lists stay open.
Conditions: none but those that each statement names.
-/
import Derived.Test.YtlcnbhiklpfpjaaGreatDoorC09e
import Derived.Test.YtlcnbhiklpfpjaaGreatDoorD08
import Derived.Test.YtlcnbhiklpfpjaaGreatDoorC10a
set_option linter.unusedVariables false
set_option linter.unusedSimpArgs false
set_option maxRecDepth 100000
set_option maxHeartbeats 16000000
namespace Go.Proofs.Pv
open Go Go.Proofs
def lH:Nat->List Vo->List AV
 |_,[]=>[]
 |K,v::r=> .msl K 0 v.l.length 9::lH (K+1) r
def wZ (v:Vo):List AV:=v.l.flatMap Ev.cells
theorem aC0: ∀(K:Nat) (l l':List Vo),lH K (l++l')=lH K l++lH (K+l.length) l'
 |K,[],l'=>rfl
 |K,v::l,l'=>by
  simp only[List.cons_append,lH,aC0 (K+1) l l',List.length_cons]
  rw[show K+1+l.length=K+(l.length+1) by omega]
theorem Tj: ∀(K:Nat) (l:List Vo),(lH K l).length=l.length
 |K,[]=>rfl
 |K,v::l=>by simp only[lH,List.length_cons,Tj (K+1) l]
theorem Jh {f:Nat->Option Nat}: ∀(K K':Nat) (l:List Vo),(∀j,j<l.length->f (K+j)=some (K'+j))->(lH K l).map (AV.ren f)=lH K' l
 |K,K',[],_=>rfl
 | K,K',v::l,h=>by
  have h0:=h 0 (by simp)
  simp only[Nat.add_zero] at h0
  have:=Jh (K+1) (K'+1) l fun j hj=>by
   have:=h (j+1) (by simp only[List.length_cons];omega)
   rw[show K+1+j=K+(j+1) by omega,show K'+1+j=K'+(j+1) by omega];exact this
  simp only[lH,List.map_cons,AV.ren,h0,this]
theorem aBr {f:Nat->Option Nat} (v:Vo):(wZ v).map (AV.ren f)=wZ v:=gB v.l
theorem aQr {f:Nat->Option Nat} (l:List Vo):(l.map wZ).map (List.map (AV.ren f))=l.map wZ:=by
 induction l with
 |nil=>rfl
 |cons v l ih=>simp only[List.map_cons,aBr,ih]
theorem take_snoc {α:Type} {l:List α} {i:Nat} (h:i<l.length):l.take (i+1)=l.take i++[l[i]]:=List.take_succ_eq_append_getElem h
theorem aNy (c:List Vo) (h:xC c) (h9:c.length<=800):Own Tryz.prog gl 41 [bU c] (.msl 0 0 c.length 1) ((0,lH 1 c)::dW 1 (c.map wZ)) 1000:=by
  have hl:=h.hi
  unfold bU
  (refine Own.intro 2 mix names (fn:=Tryz.f41) Tryz.func41 rfl fun F hF hro W=>?_;simp only[Tryz.ntmps41,Tryz.results41,aJ,Nat.reduceAdd,Nat.reduceSub])
  repeat' (simp -implicitDefEqProofs (maxSteps:=9999999) (disch:=first|assumption|omega) only[aA,aC,facts,Nat.reduceAdd, *])
  refine jV (fD 21 [3,6,7,8]) 1000 c.length (fun i (_:Unit)=>⟨[.ud,.ud,.ud,iR 100 1 i,.ud,.ud,.sl 1 (c.map Vo.av) .none,.int .i64 (c.length:Nat),.int .i64 (i:Nat),.ud,.ud,.ud,.ud,.ud,.ud,.ud,.ud,.ud,.ud,.ud,.ud],[]⟩) (fun i _=>⟨hC (jI 100 (lH 101 (c.take i)) i++dW 101 ((c.take i).map wZ)),1000⟩) (fun i _=>i<1000001) ⟨(),by omega,bI 5 [],gK 5 [],dH.of_fit rfl rfl rfl,aG.nil,rfl,rfl⟩ ?_
  rintro i x hi hi2
  rcases Nat.lt_or_ge i c.length with hlt|hge
  · have hv:=h.vo c[i] (List.getElem_mem hlt)
    obtain⟨n,hn⟩: ∃n,c[i].l.length=n+1:=⟨c[i].l.length - 1,by have:=hv.lo;omega⟩
    have hown:=qM c[i].l hv.hi hv.ev
    rw[hn] at hown
    simp only[dY,bJ] at hown
    rcases i with _|i
    · simp only[aX,aY,List.take_zero,List.map_nil,dW,List.append_nil,aN]
      repeat' (first
    |simp -implicitDefEqProofs (maxSteps:=9999999) (disch:=first|assumption|omega) only[aA,aC,facts,if_pos,Nat.reduceAdd,Nat.reduceLT,Nat.reduceLeDiff,Int.reduceLE,Int.reduceAdd,gI,cO,List.flatMap_cons,List.flatMap_nil,AV.cells,true_or,AV.one,rO,xF,nC,eX,fH,aK,aN,gB,wrap_in,List.getElem?_eq_getElem,Vo.av,aT, *]
    |((with_reducible refine aF (fun _=>?_) (fun _=>?_))<;>try omega)
    | ((with_reducible refine aS 52 ?_);refine vZ hF hro hown (rfl) ?_))
      refine dN 0 () hlt (by omega) (by omega) (dS 5 [(1011,100,1),(1008,101,1)]) (xZ 5 [(1011,100,1),(1008,101,1)]) (dH.seg (by simp [oH]) (by omega) rfl) ?_ rfl rfl
      simp only[take_snoc hlt,List.take_zero,List.nil_append,List.map_cons,List.map_nil,bJ,dW,lH,List.cons_append,aK,aN]
      exact aG.cons 1011 rfl rfl (by simp [AV.ren,dS,jJ,hn]) (aG.cons 1008 rfl rfl (gB _) aG.nil)
    · have hT:iJ 101 1000 (hC (dW 101 ((c.take (i+1)).map wZ))):=iJ.fam (by rw[List.length_map,List.length_take];omega)
      have hfl:(lH 101 (c.take (i+1))).length=i+1:=by rw[Tj,List.length_take];omega
      have t1:=hT.lo
      have t2:=hT.hi
      have t3:=hT.dlo
      have t4:=hT.dhi
      simp only[dY,bJ,List.cons_append,List.nil_append,aK]
      generalize hZ:hC (dW 101 ((c.take (i+1)).map wZ))=Z at t1 t2 t3 t4 ⊢
      repeat' (first
    |simp -implicitDefEqProofs (maxSteps:=9999999) (disch:=first|assumption|omega) only[aA,aC,facts,if_pos,if_neg,Nat.reduceAdd,Nat.reduceEqDiff,Nat.reduceLT,Nat.reduceLeDiff,gI,cO,List.flatMap_cons,List.flatMap_nil,AV.cells,AV.one,rO,xF,nC,eX,fH,aK,aN,gB,wrap_in,List.getElem?_eq_getElem,Vo.av,aT, *]
    |((with_reducible refine aF (fun _=>?_) (fun _=>?_))<;>try omega)
    | ((with_reducible refine aS 52 ?_);refine vZ hF hro hown (rfl) ?_))
      refine dN (i+1) () hlt (by omega) (by omega) (dS 5 [(1011,100,1),(1008,101+(i+1),1),(101,101,i+1)]) (xZ 5 [(1011,100,1),(1008,101+(i+1),1),(101,101,i+1)]) (dH.seg (by simp [oH];omega) (by omega) rfl) ?_ rfl rfl
      have hmin:min (i+1) c.length=i+1:=by omega
      have hs: ∀j,j<i+1->dS 5 [(1011,100,1),(1008,101+(i+1),1),(101,101,i+1)] (101+j)=some (101+j):=fun j hj=>by
        simp only[dS,jJ]
        rw[if_neg (by omega),if_neg (by omega),if_neg (by omega),if_pos (by omega)];congr 1;omega
      simp only[bJ,take_snoc hlt,aC0,List.map_append,Ir,List.map_cons,List.map_nil,List.length_map,List.length_take,hmin,List.cons_append,List.nil_append,aK,uD,lH,dW,aN]
      refine aG.cons 1011 rfl rfl ?_ (aG.app (aG.fam (K:=101) (l:=(c.take (i+1)).map wZ) rfl fun j h1 h2=>?_) (aG.cons 1008 rfl rfl (gB _) aG.nil))
      · rw[List.map_append,Jh 101 101 _ fun j hj=>hs j (by rw[List.length_take] at hj;omega)]
        simp [AV.ren,dS,jJ,hn]
      · rw[List.length_map,List.length_take] at h1
        refine⟨hs j (by omega),?_,by rw[List.getElem_map];exact aBr _⟩
        rw[bD (by omega),bD (by omega),bD (by omega),bD (by omega),sG (by omega),<-hZ]
        exact iO h2
  · have:i=c.length:=by omega
    subst this
    obtain⟨n,hn⟩: ∃n,c.length=n+1:=⟨c.length - 1,by have:=h.lo;omega⟩
    repeat' (first
    |simp -implicitDefEqProofs (maxSteps:=9999999) (disch:=first|assumption|omega) only[aA,aC,facts,Nat.reduceAdd,aT, *]
    |((with_reducible refine aF (fun _=>?_) (fun _=>?_))<;>try omega))
    have htk:List.take (n+1) c=c:=by rw[<-hn,List.take_length]
    rw[htk]
    have hs: ∀j,j<c.length->dS 0 [(100,0,1),(101,1,c.length)] (101+j)=some (1+j):=fun j hj=>by
      simp only[dS,jJ]
      rw[if_neg (by omega),if_neg (by omega),if_pos (by omega)];congr 1;omega
    refine vI.seg [(100,0,1),(101,1,c.length)] (by simp [oH];omega) ?_ (by simp [iR,AV.ren,dS,jJ])
    simp only[bJ,List.cons_append,List.nil_append,aK]
    refine aG.cons 100 rfl rfl (Jh 101 1 c hs) (aG.fam (K:=101) (l:=c.map wZ) rfl fun j h1 h2=>⟨hs j (by simpa using h1),?_,by rw[List.getElem_map];exact aBr _⟩)
    rw[bD (by omega)]
    exact iO h2
def vC (k:Nat):Bool:=decide (1000<=k)
def jK (hp:Hp) (K:Nat) (l:List (List AV)):Prop:= ∀q (h:q<l.length),hp (K+q)=some (.cells l[q])
theorem jK.head {hp:Hp} {K:Nat} {x:List AV} {l:List (List AV)} (h:jK hp K (x::l)):hp K=some (.cells x):=by
 have:=h 0 (by simp)
 simpa using this
theorem jK.tail {hp:Hp} {K:Nat} {x:List AV} {l:List (List AV)} (h:jK hp K (x::l)):jK hp (K+1) l:=fun q hq=>by
 have:=h (q+1) (by simp only[List.length_cons];omega)
 rw[show K+(q+1)=K+1+q by omega] at this
 simpa using this
theorem jK.left {hp:Hp} {K:Nat} {a b:List (List AV)} (h:jK hp K (a++b)):jK hp K a:=fun q hq=>by
 have:=h q (by rw[List.length_append];omega)
 rwa [List.getElem_append_left hq] at this
theorem jK.right {hp:Hp} {K:Nat} {a b:List (List AV)} (h:jK hp K (a++b)):jK hp (K+a.length) b:=fun q hq=>by
 have:=h (a.length+q) (by rw[List.length_append];omega)
 rw[List.getElem_append_right (by omega),show K+(a.length+q)=K+a.length+q by omega] at this
 simpa using this
theorem jK.mono {hp hp':Hp} {K:Nat} {l:List (List AV)} (h:jK hp K l) (hm: ∀k,K<=k->k<K+l.length->hp' k=hp k):jK hp' K l:=fun q hq=>by rw[hm _ (by omega) (by omega)];exact h q hq
theorem jK.fam {K:Nat} {l:List (List AV)}:jK (hget (hC (dW K l))) K l:=fun q hq=>iO hq
theorem aDa {hp:Hp} {d:Nat}: ∀(K:Nat) (c:List Vo),jK hp K (c.map wZ)->(lH K c).map (AV.nowS vC hp (d+1))=c.map fun v=> .sl 9 (v.l.map Ev.av) .none
 |K,[],_=>rfl
 |K,v::c,h=>by
  simp only[List.map_cons] at h
  simp only[lH,List.map_cons,aDa (K+1) c h.tail]
  rw[aJg v.l rfl h.head]
theorem Px {hp:Hp} {d k n:Nat} (c:List Vo) {E:List AV} (hk:hp k=some (.cells E)) (h1:1000<=k) (hE:E.map (AV.nowS vC hp d)=c.map fun v=> .sl 9 (v.l.map Ev.av) .none) (hn:n=c.length):AV.nowS vC hp (d+1) (.msl k 0 n 1)=bU c:=by
 subst hn
 have hlen:E.length=c.length:=by have:=congrArg List.length hE;simpa using this
 refine(pJ hk (by decide) (hE.trans (nZ (c:=fun v:Vo=>AV.sl 9 (v.l.map Ev.av) .none) c).symm) (by omega) (kZ (fun _=>rfl) c)).trans ?_
 rw[show vC k=true from decide_eq_true h1,Bool.or_true,lI (c:=fun v:Vo=>[AV.sl 9 (v.l.map Ev.av) .none]) (k:=1) (fun _=>rfl) c]
 rfl
structure CF where
 sz:List Vo->Nat
 blk:Nat->List Vo->List (List AV)
 cell:Nat->List Vo->AV
 len: ∀K c,(blk K c).length=sz c
 ren: ∀(f:Nat->Option Nat) (K K':Nat) (c:List Vo),(∀j,j<sz c->f (K+j)=some (K'+j))->(blk K c).map (List.map (AV.ren f))=blk K' c
 cren: ∀(f:Nat->Option Nat) (K K':Nat) (c:List Vo),(∀j,j<sz c->f (K+j)=some (K'+j))->AV.ren f (cell K c)=cell K' c
 now: ∀(hp:Hp) (d K:Nat) (c:List Vo),jK hp K (blk K c)->1000<=K->AV.nowS vC hp (d+2) (cell K c)=bU c
theorem aFy {f:Nat->Option Nat} {K K' n m:Nat} (hm:1<=m) (h: ∀j,j<m->f (K+j)=some (K'+j)):AV.ren f (.msl K 0 n 1)= .msl K' 0 n 1:=by
 have h0:=h 0 (by omega)
 simp only[Nat.add_zero] at h0
 simp only[AV.ren,h0]
def x9:CF where
 sz c:=1+c.length
 blk K c:=lH (K+1) c::c.map wZ
 cell K c:= .msl K 0 c.length 1
 len K c:=by simp only[List.length_cons,List.length_map];omega
 ren f K K' c h:=by
  have:=Jh (f:=f) (K+1) (K'+1) c fun j hj=>by
   have:=h (1+j) (by omega)
   rw[show K+1+j=K+(1+j) by omega,show K'+1+j=K'+(1+j) by omega];exact this
  rw[List.map_cons,this,aQr]
 cren f K K' c h:=aFy (by omega) h
 now hp d K c h hK:=Px c h.head hK (aDa (K+1) c h.tail) rfl
theorem yS (c:List Vo):(c.flatMap fC).length=c.length:=by rw[flat_length (k:=1) (fun _=>rfl),Nat.mul_one]
def aSf:CF where
 sz c:=1
 blk K c:=[c.flatMap fC]
 cell K c:= .msl K 0 c.length 1
 len K c:=rfl
 ren f K K' c h:=by rw[List.map_cons,List.map_nil,jR (c:=fC) (fun _=>rfl)]
 cren f K K' c h:=aFy (by omega) h
 now hp d K c h hK:=by
  refine Px c h.head hK ?_ rfl
  rw[lV (c:=fC) (fun _=>rfl)]
  exact nZ (c:=fun v:Vo=>AV.sl 9 (v.l.map Ev.av) .none) c
def y5:CF where
 sz c:=0
 blk K c:=[]
 cell K c:=bU c
 len K c:=rfl
 ren f K K' c h:=rfl
 cren f K K' c h:=rfl
 now hp d K c h hK:=rfl
def cnt (Φ:CF):List (List Vo)->Nat
 |[]=>0
 |c::r=>Φ.sz c+cnt Φ r
def eH (Φ:CF):Nat->List (List Vo)->List AV
 |_,[]=>[]
 |K,c::r=>Φ.cell K c::eH Φ (K+Φ.sz c) r
def csB (Φ:CF):Nat->List (List Vo)->List (List AV)
 |_,[]=>[]
 |K,c::r=>Φ.blk K c++csB Φ (K+Φ.sz c) r
section
variable {Φ:CF}
theorem Gq: ∀l l':List (List Vo),cnt Φ (l++l')=cnt Φ l+cnt Φ l'
 |[],l'=>by simp [cnt]
 |c::l,l'=>by simp only[List.cons_append,cnt,Gq l l'];omega
theorem aRc (l:List (List Vo)) (i:Nat):cnt Φ (l.take i)<=cnt Φ l:=by
 conv=>rhs;rw[<-List.take_append_drop i l,Gq]
 omega
theorem kN: ∀(K:Nat) (l:List (List Vo)),(csB Φ K l).length=cnt Φ l
 |K,[]=>rfl
 |K,c::l=>by simp only[csB,cnt,List.length_append,Φ.len,kN (K+Φ.sz c) l]
theorem uI: ∀(K:Nat) (l:List (List Vo)),(eH Φ K l).length=l.length
 |K,[]=>rfl
 |K,c::l=>by simp only[eH,List.length_cons,uI (K+Φ.sz c) l]
theorem Ua: ∀(K:Nat) (l l':List (List Vo)),eH Φ K (l++l')=eH Φ K l++eH Φ (K+cnt Φ l) l'
 |K,[],l'=>rfl
 |K,c::l,l'=>by
  simp only[List.cons_append,eH,Ua (K+Φ.sz c) l l',cnt]
  rw[Nat.add_assoc]
theorem aBw: ∀(K:Nat) (l l':List (List Vo)),csB Φ K (l++l')=csB Φ K l++csB Φ (K+cnt Φ l) l'
 |K,[],l'=>rfl
 |K,c::l,l'=>by
  simp only[List.cons_append,csB,aBw (K+Φ.sz c) l l',cnt,List.append_assoc]
  rw[Nat.add_assoc]
theorem uJ {f:Nat->Option Nat}: ∀(K K':Nat) (l:List (List Vo)),(∀j,j<cnt Φ l->f (K+j)=some (K'+j))->(eH Φ K l).map (AV.ren f)=eH Φ K' l
 |K,K',[],_=>rfl
 | K,K',c::l,h=>by
  have h0:=Φ.cren f K K' c fun j hj=>h j (by simp only[cnt];omega)
  have:=uJ (K+Φ.sz c) (K'+Φ.sz c) l fun j hj=>by
   rw[Nat.add_assoc,Nat.add_assoc];exact h (Φ.sz c+j) (by simp only[cnt];omega)
  simp only[eH,List.map_cons,h0,this]
theorem zD {f:Nat->Option Nat}: ∀(K K':Nat) (l:List (List Vo)),(∀j,j<cnt Φ l->f (K+j)=some (K'+j))->(csB Φ K l).map (List.map (AV.ren f))=csB Φ K' l
 |K,K',[],_=>rfl
 | K,K',c::l,h=>by
  have h1:=Φ.ren f K K' c fun j hj=>h j (by simp only[cnt];omega)
  have:=zD (K+Φ.sz c) (K'+Φ.sz c) l fun j hj=>by
   rw[Nat.add_assoc,Nat.add_assoc];exact h (Φ.sz c+j) (by simp only[cnt];omega)
  simp only[csB,List.map_append,h1,this]
theorem upk {n K j:Nat}:up n (K+j)=some (K+n+j):=by show some _=some _;congr 1;omega
theorem aOf {n K:Nat} {c:List Vo}:(Φ.blk K c).map (List.map (AV.ren (up n)))=Φ.blk (K+n) c:=Φ.ren _ K (K+n) c fun j _=>upk
theorem Yh {n K:Nat} {l:List (List Vo)}:(eH Φ K l).map (AV.ren (up n))=eH Φ (K+n) l:=uJ K (K+n) l fun j _=>upk
theorem aFz {n K:Nat} {l:List (List Vo)}:(csB Φ K l).map (List.map (AV.ren (up n)))=csB Φ (K+n) l:=zD K (K+n) l fun j _=>upk
theorem zF {hp:Hp} {d:Nat}: ∀(K:Nat) (cs:List (List Vo)),1000<=K->jK hp K (csB Φ K cs)->(eH Φ K cs).map (AV.nowS vC hp (d+2))=cs.map bU
 |K,[],_,_=>rfl
 |K,c::cs,hK,h=>by
  simp only[csB] at h
  have h3:=h.right
  rw[Φ.len] at h3
  simp only[eH,List.map_cons,zF (K+Φ.sz c) cs (by omega) h3,Φ.now hp d K c h.left hK]
end
theorem aF0 (Φ:CF) (hcm: ∀K c,Φ.cell K c= .msl K 0 c.length 1) (pos: ∀c,1<=Φ.sz c) (top: ∀c,c.length<=800->Φ.sz c<=900) (own: ∀c,xC c->c.length<=800->Own Tryz.prog gl 41 [bU c] (.msl 0 0 c.length 1) ([]++dW 0 (Φ.blk 0 c)) 1000) (cs:List (List Vo)) (h0:0<cs.length) (hl:cs.length<=1000000) (hs: ∀c∈cs,xC c/\c.length<=800) (h9:cnt Φ cs<=90000):
    Own Tryz.prog gl 40 [.sl 1 (cs.map bU) .none,.fn 41 [] []] (.msl 0 0 cs.length 1) ([(0,eH Φ 1 cs)]++dW 1 (csB Φ 1 cs)) 100000:=by
  (refine Own.intro 2 mix names (fn:=Tryz.f40) Tryz.func40 rfl fun F hF hro W=>?_;simp only[Tryz.ntmps40,Tryz.results40,aJ,Nat.reduceAdd,Nat.reduceSub])
  repeat' (simp -implicitDefEqProofs (maxSteps:=9999999) (disch:=first|assumption|omega) only[aA,aC,facts,Nat.reduceAdd, *])
  refine jV (fD 22 [1,5,8,9,10]) 100000 cs.length (fun i (_:Unit)=>⟨[.ud,.fn 41 [] [],.ud,.ud,.ud,iR 100 1 i,.ud,.ud,.sl 1 (cs.map bU) .none,.int .i64 (cs.length:Nat),.int .i64 (i:Nat),.ud,.ud,.ud,.ud,.ud,.ud,.ud,.ud,.ud,.ud,.ud],[]⟩) (fun i _=>⟨hC (jI 100 (eH Φ 101 (cs.take i)) i++dW 101 (csB Φ 101 (cs.take i))),100000⟩) (fun i _=>i<1000001) ⟨(),by omega,bI 5 [],gK 5 [],dH.of_fit rfl rfl rfl,aG.nil,rfl,rfl⟩ ?_
  rintro i x hi hi2
  rcases Nat.lt_or_ge i cs.length with hlt|hge
  · have hv:=hs cs[i] (List.getElem_mem hlt)
    have hown:=own cs[i] hv.1 hv.2
    have hsz:=pos cs[i]
    have hst:=top cs[i] hv.2
    have hcl:cnt Φ cs=cnt Φ (cs.take i)+Φ.sz cs[i]+cnt Φ (cs.drop (i+1)):=by
      conv=>lhs;rw[<-List.take_append_drop (i+1) cs,Gq,take_snoc hlt,Gq]
      simp [cnt]
    rcases i with _|i
    · simp only[aX,aY,List.take_zero,csB,dW,List.append_nil,aN]
      repeat' (first
    |simp -implicitDefEqProofs (maxSteps:=9999999) (disch:=first|assumption|omega) only[aA,aC,facts,if_pos,Nat.reduceAdd,Nat.reduceLT,Nat.reduceLeDiff,Int.reduceLE,Int.reduceAdd,gI,cO,List.flatMap_cons,List.flatMap_nil,AV.cells,true_or,AV.one,Jq,Jr,nC,oC,aOf,fH,aN,wrap_in,List.getElem?_eq_getElem,bU,aT, *]
    |((with_reducible refine aF (fun _=>?_) (fun _=>?_))<;>try omega)
    | ((with_reducible refine aS 41 ?_);refine Gt hF hro hown (rfl) ?_))
      have hs2: ∀j,j<Φ.sz cs[0]->dS 5 [(101008,100,1),(100007,101,Φ.sz cs[0])] (100007+j)=some (101+j):=fun j hj=>by
        simp only[dS,jJ]
        rw[if_neg (by omega),if_neg (by omega),if_pos (by omega)];exact congrArg some (by omega)
      have hs0:dS 5 [(101008,100,1),(100007,101,Φ.sz cs[0])] 100007=some 101:=by
        have:=hs2 0 (by omega)
        simpa using this
      refine dN 0 () hlt (by omega) (by omega) (dS 5 [(101008,100,1),(100007,101,Φ.sz cs[0])]) (xZ 5 [(101008,100,1),(100007,101,Φ.sz cs[0])]) (dH.seg (by simp [oH];omega) (by omega) rfl) ?_ rfl rfl
      simp only[take_snoc hlt,List.take_zero,List.nil_append,bJ,eH,hcm,csB,List.append_nil,List.cons_append,aK]
      refine aG.cons 101008 rfl rfl (by simp only[List.map_cons,List.map_nil,AV.ren,hs0]) (aG.famM (Φ.ren _ _ _ _ hs2) (fun j hj=>hs2 j (by rw[Φ.len] at hj;exact hj)) fun j hj=>?_)
      have hj2:=hj
      rw[Φ.len] at hj2
      repeat rw[bD (by omega)]
      exact iO hj
    · have hT:iJ 101 100000 (hC (dW 101 (csB Φ 101 (cs.take (i+1))))):=iJ.fam (by rw[kN];omega)
      have hfl:(eH Φ 101 (cs.take (i+1))).length=i+1:=by rw[uI,List.length_take];omega
      have t1:=hT.lo
      have t2:=hT.hi
      have t3:=hT.dlo
      have t4:=hT.dhi
      simp only[dY,bJ,List.cons_append,List.nil_append,aK]
      generalize hZ:hC (dW 101 (csB Φ 101 (cs.take (i+1))))=Z at t1 t2 t3 t4 ⊢
      repeat' (first
    |simp -implicitDefEqProofs (maxSteps:=9999999) (disch:=first|assumption|omega) only[aA,aC,facts,if_pos,Nat.reduceAdd,Nat.reduceEqDiff,Nat.reduceLT,Nat.reduceLeDiff,gI,cO,List.flatMap_cons,List.flatMap_nil,AV.cells,AV.one,Jq,Jr,nC,oC,aOf,fH,aN,wrap_in,List.getElem?_eq_getElem,bU,aT, *]
    |((with_reducible refine aF (fun _=>?_) (fun _=>?_))<;>try omega)
    | ((with_reducible refine aS 41 ?_);refine Gt hF hro hown (rfl) ?_))
      have hlc:(csB Φ 101 (cs.take (i+1))).length=cnt Φ (cs.take (i+1)):=kN _ _
      generalize hTT:cnt Φ (cs.take (i+1))=T at hcl hlc
      have hs1: ∀j,j<T->dS 5 [(101008,100,1),(100007,101+T,Φ.sz cs[i+1]),(101,101,T)] (101+j)=some (101+j):=fun j hj=>by
        simp only[dS,jJ]
        rw[if_neg (by omega),if_neg (by omega),if_neg (by omega),if_pos (by omega)];exact congrArg some (by omega)
      have hs2: ∀j,j<Φ.sz cs[i+1]->dS 5 [(101008,100,1),(100007,101+T,Φ.sz cs[i+1]),(101,101,T)] (100007+j)=some (101+T+j):=fun j hj=>by
        simp only[dS,jJ]
        rw[if_neg (by omega),if_neg (by omega),if_pos (by omega)];exact congrArg some (by omega)
      have hs0:dS 5 [(101008,100,1),(100007,101+T,Φ.sz cs[i+1]),(101,101,T)] 100007=some (101+T):=by
        have:=hs2 0 (by omega)
        simpa using this
      refine dN (i+1) () hlt (by omega) (by omega) (dS 5 [(101008,100,1),(100007,101+T,Φ.sz cs[i+1]),(101,101,T)]) (xZ 5 [(101008,100,1),(100007,101+T,Φ.sz cs[i+1]),(101,101,T)]) (dH.seg (by simp [oH];omega) (by omega) rfl) ?_ rfl rfl
      simp only[bJ,take_snoc hlt,Ua,aBw,Ir,hlc,hTT,List.cons_append,List.nil_append,aK,uD,eH,hcm,csB,List.append_nil]
      refine aG.cons 101008 rfl rfl ?_ (aG.app (aG.famM (zD 101 101 _ (by rw[hTT];exact hs1)) (fun j hj=>hs1 j (by omega)) fun j hj=>?_) (aG.famM (Φ.ren _ _ _ _ hs2) (fun j hj=>hs2 j (by rw[Φ.len] at hj;exact hj)) fun j hj=>?_))
      · rw[List.map_append,uJ 101 101 _ (by rw[hTT];exact hs1)]
        simp only[List.map_cons,List.map_nil,AV.ren,hs0]
      · repeat rw[bD (by omega)]
        rw[sG (by omega),bV,<-hZ,iO hj]
      · have hj2:=hj
        rw[Φ.len] at hj2
        repeat rw[bD (by omega)]
        rw[sG (by omega),bV,t2 _ (by omega)]
        exact iO hj
  · have:i=cs.length:=by omega
    subst this
    obtain⟨n,hn⟩: ∃n,cs.length=n+1:=⟨cs.length - 1,by omega⟩
    repeat' (first
    |simp -implicitDefEqProofs (maxSteps:=9999999) (disch:=first|assumption|omega) only[aA,aC,facts,Nat.reduceAdd,aT, *]
    |((with_reducible refine aF (fun _=>?_) (fun _=>?_))<;>try omega))
    have htk:List.take (n+1) cs=cs:=by rw[<-hn,List.take_length]
    rw[htk]
    have hs: ∀j,j<cnt Φ cs->dS 0 [(100,0,1),(101,1,cnt Φ cs)] (101+j)=some (1+j):=fun j hj=>by
      simp only[dS,jJ]
      rw[if_neg (by omega),if_neg (by omega),if_pos (by omega)];exact congrArg some (by omega)
    refine vI.seg [(100,0,1),(101,1,cnt Φ cs)] (by simp [oH];omega) ?_ (by simp [iR,AV.ren,dS,jJ])
    simp only[bJ,List.cons_append,List.nil_append,aK]
    refine aG.cons 100 rfl rfl (uJ 101 1 cs hs) (aG.famM (zD 101 1 cs hs) (fun j hj=>hs j (by rw[kN] at hj;exact hj)) fun j hj=>?_)
    rw[bD (by omega)]
    exact iO hj
structure oK extends CF where
 each: ∀cs:List (List Vo),0<cs.length->cs.length<=1000000->(∀c∈cs,xC c/\c.length<=800)->cnt toCF cs<=90000->
  Own Tryz.prog gl 40 [.sl 1 (cs.map bU) .none,.fn 41 [] []] (.msl 0 0 cs.length 1) ([(0,eH toCF 1 cs)]++dW 1 (csB toCF 1 cs)) 100000
instance:CoeOut oK CF:=⟨oK.toCF⟩
def dJ:oK where
 toCF:=x9
 each cs h0 hl hs h9:=aF0 x9 (fun _ _=>rfl) (fun c=>by show 1<=1+c.length;omega) (fun c h=>by show 1+c.length<=900;omega) (fun c h h8=>aNy c h h8) cs h0 hl hs h9
def fU:oK where
 toCF:=aSf
 each cs h0 hl hs h9:=aF0 aSf (fun _ _=>rfl) (fun c=>Nat.le_refl 1) (fun c h=>by show 1<=900;omega) (fun c h h8=>by
  have:=Eb c ⟨h.hi,fun v hv=>⟨(h.vo v hv).hi,(h.vo v hv).ev⟩⟩
  obtain⟨n,hn⟩: ∃n,c.length=n+1:=⟨c.length - 1,by have:=h.lo;omega⟩
  rw[hn] at this
  show Own Tryz.prog gl 41 [bU c] (.msl 0 0 c.length 1) ([]++dW 0 [c.flatMap fC]) 1000
  rw[hn]
  exact Own.more this (by omega)) cs h0 hl hs h9
theorem aBx: ∀(K:Nat) (cs:List (List Vo)),eH y5 K cs=cs.flatMap fF/\csB y5 K cs=[]/\cnt y5 cs=0
 |K,[]=>⟨rfl,rfl,rfl⟩
 |K,c::cs=>by
  obtain⟨h1,h2,h3⟩:=aBx (K+y5.sz c) cs
  exact⟨by rw[eH,h1];rfl,by rw[csB,h2];rfl,by rw[cnt,h3];rfl⟩
def pW:oK where
 toCF:=y5
 each cs h0 hl hs h9:=by
  have:=Ti cs hl fun c hc=>⟨(hs c hc).1.hi,fun v hv=>⟨((hs c hc).1.vo v hv).hi,((hs c hc).1.vo v hv).ev⟩⟩
  obtain⟨n,hn⟩: ∃n,cs.length=n+1:=⟨cs.length - 1,by omega⟩
  obtain⟨h1,h2,_⟩:=aBx 1 cs
  rw[h1,h2]
  rw[hn] at this ⊢
  exact Own.more this (by omega)
end Go.Proofs.Pv
namespace Go.Proofs.Pv
open Go Go.Proofs
variable {Φ:oK}
structure Pa.goodU (Φ:oK) (p:Pa):Prop where
 g:p.good
 d:0<p.dyns.length
 c: ∀c∈p.cells,c.length<=800
 n:cnt Φ p.cells<=90000
theorem aTw (p:Pa) (h:p.goodU Φ):Own Tryz.prog gl 39 [p.av] (.agg [.str p.name,.int .i64 p.clef,.int .i64 p.channel,.msl 0 0 p.cells.length 1,.msl 1 0 p.dyns.length 1]) ([(0,eH Φ 2 p.cells),(1,p.dyns.flatMap fP)]++dW 2 (csB Φ 2 p.cells)) 100000:=by
 have hn:=h.n
 have hown:Own Tryz.prog gl 40 [.sl 1 (p.cells.map bU) .none,.fn 41 [] []] (.msl 0 0 p.cells.length 1) ([(0,eH Φ 1 p.cells)]++dW 1 (csB Φ 1 p.cells)) 100000:=Φ.each p.cells h.g.lo h.g.hi (fun c hc=>⟨h.g.ce c hc,h.c c hc⟩) hn
 obtain⟨b,hb⟩: ∃b,p.dyns.length=b+1:=⟨p.dyns.length - 1,by have:=h.d;omega⟩
 have hdy:=Qy p.dyns h.g.dh h.g.dy
 rw[hb] at hdy ⊢
 simp only[dY,bJ] at hdy
 (refine Own.intro 2 mix names (fn:=Tryz.f39) Tryz.func39 rfl fun F hF hro W=>?_;simp only[Tryz.ntmps39,Tryz.results39,aJ,Nat.reduceAdd,Nat.reduceSub])
 repeat' (first
  |simp -implicitDefEqProofs (maxSteps:=9999999) (disch:=first|assumption|omega) only[aA,aC,facts,if_pos,Nat.reduceAdd,Nat.reduceLeDiff,AV.cells,AV.one,Pa.av,nC,Yh,oC,aFz,eX,fH,aK,aN,nU, *]
  |((with_reducible refine aS 40 ?_);refine Gt hF hro hown (rfl) ?_)
  |((with_reducible refine aS 42 ?_);refine vZ hF hro hdy (rfl) ?_))
 have hs: ∀j,j<cnt Φ p.cells->dS 0 [(4,0,1),(100008,1,1),(5,2,cnt Φ p.cells)] (5+j)=some (2+j):=fun j hj=>by
  simp only[dS,jJ]
  rw[if_neg (by omega),if_neg (by omega),if_neg (by omega),if_pos (by omega)];exact congrArg some (by omega)
 refine vI.seg [(4,0,1),(100008,1,1),(5,2,cnt Φ p.cells)] (by simp [oH];omega) ?_ (by simp [AV.ren,AV.renL_eq,dS,jJ])
 simp only[List.cons_append,List.nil_append,aK]
 refine aG.cons 4 rfl rfl (uJ 5 2 _ hs) (aG.cons 100008 (by simp [hget]) (by simp [dS,jJ]) (nU _) (aG.famM (zD 5 2 _ hs) (fun j hj=>hs j (by rw[kN] at hj;exact hj)) fun j hj=>?_))
 rw[kN] at hj
 rw[bD (by omega),bD (by omega),bD (by omega),bD (by omega)]
 exact iO (by rw[kN];exact hj)
def cZ:Nat->List Pa->List AV
 |_,[]=>[]
 |R,p::r=> .str p.name:: .int .i64 p.clef:: .int .i64 p.channel:: .msl R 0 p.cells.length 1:: .msl (R+1) 0 p.dyns.length 1::cZ (R+2) r
def iV (Φ:oK):Nat->List Pa->List (List AV)
 |_,[]=>[]
 |D,p::r=>eH Φ D p.cells::p.dyns.flatMap fP::iV Φ (D+cnt Φ p.cells) r
def deep (Φ:oK):Nat->List Pa->List (List AV)
 |_,[]=>[]
 |D,p::r=>csB Φ D p.cells++deep Φ (D+cnt Φ p.cells) r
def fM (Φ:oK):List Pa->Nat
 |[]=>0
 |p::r=>cnt Φ p.cells+fM Φ r
theorem Ph: ∀l l':List Pa,fM Φ (l++l')=fM Φ l+fM Φ l'
 |[],l'=>by simp [fM]
 |c::l,l'=>by simp only[List.cons_append,fM,Ph l l'];omega
theorem kY: ∀(R:Nat) (l:List Pa),(cZ R l).length=l.length*5
 |R,[]=>rfl
 |R,p::l=>by simp only[cZ,List.length_cons,kY (R+2) l];omega
theorem iQ: ∀(D:Nat) (l:List Pa),(iV Φ D l).length=2*l.length
 |D,[]=>rfl
 |D,p::l=>by simp only[iV,List.length_cons,iQ (D+cnt Φ p.cells) l];omega
theorem sF: ∀(D:Nat) (l:List Pa),(deep Φ D l).length=fM Φ l
 |D,[]=>rfl
 |D,p::l=>by simp only[deep,fM,List.length_append,kN,sF (D+cnt Φ p.cells) l]
theorem Tq: ∀(R:Nat) (l l':List Pa),cZ R (l++l')=cZ R l++cZ (R+2*l.length) l'
 |R,[],l'=>rfl
 |R,p::l,l'=>by
  simp only[List.cons_append,cZ,Tq (R+2) l l',List.length_cons]
  rw[show R+2+2*l.length=R+2*(l.length+1) by omega]
theorem Zw: ∀(D:Nat) (l l':List Pa),iV Φ D (l++l')=iV Φ D l++iV Φ (D+fM Φ l) l'
 |D,[],l'=>rfl
 |D,p::l,l'=>by
  simp only[List.cons_append,iV,Zw (D+cnt Φ p.cells) l l',fM]
  rw[show D+cnt Φ p.cells+fM Φ l=D+(cnt Φ p.cells+fM Φ l) by omega]
theorem aFo: ∀(D:Nat) (l l':List Pa),deep Φ D (l++l')=deep Φ D l++deep Φ (D+fM Φ l) l'
 |D,[],l'=>rfl
 |D,p::l,l'=>by
  simp only[List.cons_append,deep,aFo (D+cnt Φ p.cells) l l',fM,List.append_assoc]
  rw[show D+cnt Φ p.cells+fM Φ l=D+(cnt Φ p.cells+fM Φ l) by omega]
theorem mQ {f:Nat->Option Nat}: ∀(R R':Nat) (l:List Pa),(∀j,j<2*l.length->f (R+j)=some (R'+j))->(cZ R l).map (AV.ren f)=cZ R' l
 |R,R',[],_=>rfl
 | R,R',p::l,h=>by
  have h0:=h 0 (by simp)
  have h1:=h 1 (by simp;omega)
  simp only[Nat.add_zero] at h0
  have:=mQ (R+2) (R'+2) l fun j hj=>by
   have:=h (2+j) (by simp only[List.length_cons];omega)
   rw[show R+2+j=R+(2+j) by omega,show R'+2+j=R'+(2+j) by omega];exact this
  simp only[cZ,List.map_cons,AV.ren,h0,h1,this]
theorem xP {f:Nat->Option Nat}: ∀(D D':Nat) (l:List Pa),(∀j,j<fM Φ l->f (D+j)=some (D'+j))->(iV Φ D l).map (List.map (AV.ren f))=iV Φ D' l
 |D,D',[],_=>rfl
 | D,D',p::l,h=>by
  have h1:=uJ (Φ:=Φ) D D' p.cells fun j hj=>h j (by simp only[fM];omega)
  have:=xP (D+cnt Φ p.cells) (D'+cnt Φ p.cells) l fun j hj=>by
   have:=h (cnt Φ p.cells+j) (by simp only[fM];omega)
   rw[show D+cnt Φ p.cells+j=D+(cnt Φ p.cells+j) by omega,show D'+cnt Φ p.cells+j=D'+(cnt Φ p.cells+j) by omega];exact this
  simp only[iV,List.map_cons,h1,nU,this]
theorem Ar {f:Nat->Option Nat}: ∀(D D':Nat) (l:List Pa),(∀j,j<fM Φ l->f (D+j)=some (D'+j))->(deep Φ D l).map (List.map (AV.ren f))=deep Φ D' l
 |D,D',[],_=>rfl
 | D,D',p::l,h=>by
  have h1:=zD (Φ:=Φ) D D' p.cells fun j hj=>h j (by simp only[fM];omega)
  have:=Ar (D+cnt Φ p.cells) (D'+cnt Φ p.cells) l fun j hj=>by
   have:=h (cnt Φ p.cells+j) (by simp only[fM];omega)
   rw[show D+cnt Φ p.cells+j=D+(cnt Φ p.cells+j) by omega,show D'+cnt Φ p.cells+j=D'+(cnt Φ p.cells+j) by omega];exact this
  simp only[deep,List.map_append,h1,this]
theorem Yd {n R:Nat} {l:List Pa}:(cZ R l).map (AV.ren (up n))=cZ (R+n) l:=mQ R (R+n) l fun j _=>upk
theorem Dc {n K:Nat} {l:List Pa}:(iV Φ K l).map (List.map (AV.ren (up n)))=iV Φ (K+n) l:=xP K (K+n) l fun j _=>upk
theorem Nc {n K:Nat} {l:List Pa}:(deep Φ K l).map (List.map (AV.ren (up n)))=deep Φ (K+n) l:=Ar K (K+n) l fun j _=>upk
theorem iJ.app {n m:Nat} {a b:List (Nat×aI)} (h1:iJ n m a) (h2:iJ n m b):iJ n m (a++b):=
 ⟨fun k hk=>by rw[bV,h1.lo k hk];exact h2.lo k hk,fun k hk=>by rw[bV,h1.hi k hk];exact h2.hi k hk⟩
theorem iJ.wide {n m n' m':Nat} {a:List (Nat×aI)} (h:iJ n m a) (h1:n'<=n) (h2:m<=m'):iJ n' m' a:=⟨fun k hk=>h.lo k (by omega),fun k hk=>h.hi k (by omega)⟩
theorem aC7 {n:Nat} {a:ByteArray} {b c:Int} {k o m s k2 o2 m2 s2:Nat}:AV.ren (up n) (.agg [.str a,.int .i64 b,.int .i64 c,.msl k o m s,.msl k2 o2 m2 s2])= .agg [.str a,.int .i64 b,.int .i64 c,.msl (k+n) o m s,.msl (k2+n) o2 m2 s2]:=rfl
theorem aQv (ps:List Pa) (hl0:0<ps.length) (hl:ps.length<=400) (hs: ∀p∈ps,p.goodU Φ) (h9:fM Φ ps<=900000):
    Own Tryz.prog gl 38 [.sl 5 (ps.map Pa.av) .none,.fn 39 [] []] (.msl 0 0 ps.length 5) ([(0,cZ 1 ps)]++(dW 1 (iV Φ 1000 ps)++dW 1000 (deep Φ 1000 ps))) 1000000:=by
  (refine Own.intro 2 mix names (fn:=Tryz.f38) Tryz.func38 rfl fun F hF hro W=>?_;simp only[Tryz.ntmps38,Tryz.results38,aJ,Nat.reduceAdd,Nat.reduceSub])
  repeat' (simp -implicitDefEqProofs (maxSteps:=9999999) (disch:=first|assumption|omega) only[aA,aC,facts,Nat.reduceAdd, *])
  refine jV (fD 22 [1,5,8,9,10]) 1000000 ps.length (fun i (_:Unit)=>⟨[.ud,.fn 39 [] [],.ud,.ud,.ud,iR 100 5 i,.ud,.ud,.sl 5 (ps.map Pa.av) .none,.int .i64 (ps.length:Nat),.int .i64 (i:Nat),.ud,.ud,.ud,.ud,.ud,.ud,.ud,.ud,.ud,.ud,.ud],[]⟩) (fun i _=>⟨hC (jI 100 (cZ 101 (ps.take i)) i++(dW 101 (iV Φ 1000 (ps.take i))++dW 1000 (deep Φ 1000 (ps.take i)))),1000000⟩) (fun i _=>i<1000001) ⟨(),by omega,bI 5 [],gK 5 [],dH.of_fit rfl rfl rfl,aG.nil,rfl,rfl⟩ ?_
  rintro i x hi hi2
  rcases Nat.lt_or_ge i ps.length with hlt|hge
  · have hv:=hs ps[i] (List.getElem_mem hlt)
    have hown:=aTw ps[i] hv
    rcases i with _|i
    · simp only[aX,aY,List.take_zero,deep,iV,dW,List.append_nil,aN]
      repeat' (first
    |simp -implicitDefEqProofs (maxSteps:=9999999) (disch:=first|assumption|omega) only[aA,aC,facts,if_pos,Nat.reduceAdd,Nat.reduceLT,Nat.reduceLeDiff,Int.reduceLE,Int.reduceAdd,gI,cO,List.flatMap_cons,List.flatMap_nil,AV.cells,true_or,AV.one,rO,xF,aC7,Yh,oC,aFz,eX,fH,aK,aN,nU,wrap_in,List.getElem?_eq_getElem,Pa.av,aT, *]
    |((with_reducible refine aF (fun _=>?_) (fun _=>?_))<;>try omega)
    | ((with_reducible refine aS 39 ?_);refine Gt hF hro hown (rfl) ?_))
      have hcn:=hv.n
      have hs3: ∀j,j<cnt Φ ps[0].cells->dS 5 [(1100009,100,1),(1000008,101,2),(1000010,1000,cnt Φ ps[0].cells)] (1000010+j)=some (1000+j):=fun j hj=>by
        simp only[dS,jJ]
        rw[if_neg (by omega),if_neg (by omega),if_neg (by omega),if_pos (by omega)];exact congrArg some (by omega)
      have hs1:dS 5 [(1100009,100,1),(1000008,101,2),(1000010,1000,cnt Φ ps[0].cells)] 1000008=some 101:=by simp [dS,jJ]
      have hs2:dS 5 [(1100009,100,1),(1000008,101,2),(1000010,1000,cnt Φ ps[0].cells)] 1000009=some 102:=by simp [dS,jJ]
      refine dN 0 () hlt (by omega) (by omega) (dS 5 [(1100009,100,1),(1000008,101,2),(1000010,1000,cnt Φ ps[0].cells)]) (xZ 5 [(1100009,100,1),(1000008,101,2),(1000010,1000,cnt Φ ps[0].cells)]) (dH.seg (by simp [oH];omega) (by omega) rfl) ?_ rfl rfl
      simp only[take_snoc hlt,List.take_zero,List.nil_append,bJ,cZ,iV,deep,dW,List.append_nil,List.cons_append,aK,Nat.reduceAdd]
      refine aG.cons 1100009 rfl rfl (by simp only[List.map_cons,List.map_nil,AV.ren,hs1,hs2]) (aG.cons 1000008 (by simp [hget]) hs1 (uJ _ _ _ hs3) (aG.cons 1000009 (by simp [hget]) hs2 (nU _) (aG.famM (zD _ _ _ hs3) (fun j hj=>hs3 j (by rw[kN] at hj;exact hj)) fun j hj=>?_)))
      have hj2:=hj
      rw[kN] at hj2
      rw[bD (by omega),bD (by omega),bD (by omega),bD (by omega),bD (by omega)]
      exact iO hj
    · have hct:fM Φ (ps.take (i+1))<=fM Φ ps:=by
        conv=>rhs;rw[<-List.take_append_drop (i+1) ps,Ph]
        omega
      have hT:iJ 101 1000000 (hC (dW 101 (iV Φ 1000 (ps.take (i+1))))++hC (dW 1000 (deep Φ 1000 (ps.take (i+1))))):=
        iJ.app (iJ.fam (by rw[iQ,List.length_take];omega)) ((iJ.fam (m:=1000000) (by rw[sF];omega)).wide (by omega) (Nat.le_refl _))
      have hfl:(cZ 101 (ps.take (i+1))).length=(i+1)*5:=by rw[kY,List.length_take,Nat.min_eq_left (by omega)]
      have t1:=hT.lo
      have t2:=hT.hi
      have t3:=hT.dlo
      have t4:=hT.dhi
      simp only[dY,bJ,List.cons_append,List.nil_append,aK,uD]
      generalize hZ:hC (dW 101 (iV Φ 1000 (ps.take (i+1))))++hC (dW 1000 (deep Φ 1000 (ps.take (i+1))))=Z at t1 t2 t3 t4 ⊢
      repeat' (first
    |simp -implicitDefEqProofs (maxSteps:=9999999) (disch:=first|assumption|omega) only[aA,aC,facts,if_pos,if_neg,Nat.reduceAdd,Nat.reduceEqDiff,Nat.reduceLT,Nat.reduceLeDiff,gI,cO,List.flatMap_cons,List.flatMap_nil,AV.cells,AV.one,rO,xF,aC7,Yh,oC,aFz,eX,fH,aK,aN,nU,wrap_in,List.getElem?_eq_getElem,Pa.av,aT, *]
    |((with_reducible refine aF (fun _=>?_) (fun _=>?_))<;>try omega)
    | ((with_reducible refine aS 39 ?_);refine Gt hF hro hown (rfl) ?_))
      have hcn:=hv.n
      have hmin:(ps.take (i+1)).length=i+1:=by rw[List.length_take];omega
      have hlr:(iV Φ 1000 (ps.take (i+1))).length=2*(i+1):=by rw[iQ,hmin]
      have hld:(deep Φ 1000 (ps.take (i+1))).length=fM Φ (ps.take (i+1)):=sF _ _
      have hcl:fM Φ ps=fM Φ (ps.take (i+1))+cnt Φ ps[i+1].cells+fM Φ (ps.drop (i+2)):=by
        conv=>lhs;rw[<-List.take_append_drop (i+2) ps,Ph,take_snoc hlt,Ph]
        simp [fM]
      generalize hTT:fM Φ (ps.take (i+1))=T at hct hld hcl
      have hs1: ∀j,j<2*(i+1)->dS 5 [(1100009,100,1),(1000008,101+2*(i+1),2),(1000010,1000+T,cnt Φ ps[i+1].cells),(101,101,2*(i+1)),(1000,1000,T)] (101+j)=some (101+j):=fun j hj=>by
        simp only[dS,jJ]
        rw[if_neg (by omega),if_neg (by omega),if_neg (by omega),if_neg (by omega),if_pos (by omega)];exact congrArg some (by omega)
      have hs2: ∀j,j<T->dS 5 [(1100009,100,1),(1000008,101+2*(i+1),2),(1000010,1000+T,cnt Φ ps[i+1].cells),(101,101,2*(i+1)),(1000,1000,T)] (1000+j)=some (1000+j):=fun j hj=>by
        simp only[dS,jJ]
        rw[if_neg (by omega),if_neg (by omega),if_neg (by omega),if_neg (by omega),if_neg (by omega),if_pos (by omega)];exact congrArg some (by omega)
      have hs3: ∀j,j<cnt Φ ps[i+1].cells->dS 5 [(1100009,100,1),(1000008,101+2*(i+1),2),(1000010,1000+T,cnt Φ ps[i+1].cells),(101,101,2*(i+1)),(1000,1000,T)] (1000010+j)=some (1000+T+j):=fun j hj=>by
        simp only[dS,jJ]
        rw[if_neg (by omega),if_neg (by omega),if_neg (by omega),if_pos (by omega)];exact congrArg some (by omega)
      have hs4:dS 5 [(1100009,100,1),(1000008,101+2*(i+1),2),(1000010,1000+T,cnt Φ ps[i+1].cells),(101,101,2*(i+1)),(1000,1000,T)] 1000008=some (101+2*(i+1)):=by simp [dS,jJ]
      have hs5:dS 5 [(1100009,100,1),(1000008,101+2*(i+1),2),(1000010,1000+T,cnt Φ ps[i+1].cells),(101,101,2*(i+1)),(1000,1000,T)] 1000009=some (101+2*(i+1)+1):=by simp [dS,jJ]
      refine dN (i+1) () hlt (by omega) (by omega) (dS 5 [(1100009,100,1),(1000008,101+2*(i+1),2),(1000010,1000+T,cnt Φ ps[i+1].cells),(101,101,2*(i+1)),(1000,1000,T)]) (xZ 5 [(1100009,100,1),(1000008,101+2*(i+1),2),(1000010,1000+T,cnt Φ ps[i+1].cells),(101,101,2*(i+1)),(1000,1000,T)]) (dH.seg (by simp [oH];omega) (by omega) rfl) ?_ rfl rfl
      simp only[bJ,take_snoc hlt,Tq,Zw,aFo,Ir,hlr,hld,hTT,hmin,List.cons_append,List.nil_append,aK,uD,cZ,iV,deep,dW,List.append_nil,aN]
      refine aG.cons 1100009 rfl rfl ?_ (aG.app (aG.app (aG.famM (xP 1000 1000 _ (by rw[hTT];exact hs2)) (fun j hj=>hs1 j (by omega)) fun j hj=>?_) (aG.cons 1000008 (by simp [hget]) hs4 (uJ _ _ _ hs3) (aG.cons 1000009 (by simp [hget]) hs5 (nU _) aG.nil)))
        (aG.app (aG.famM (Ar 1000 1000 _ (by rw[hTT];exact hs2)) (fun j hj=>hs2 j (by omega)) fun j hj=>?_) (aG.famM (zD _ _ _ hs3) (fun j hj=>hs3 j (by rw[kN] at hj;exact hj)) fun j hj=>?_)))
      · rw[List.map_append,mQ 101 101 _ (by rw[hmin];exact hs1)]
        simp only[List.map_cons,List.map_nil,AV.ren,hs4,hs5]
      · have hj2:=hj
        rw[hlr] at hj2
        rw[bD (by omega),bD (by omega),bD (by omega),bD (by omega),bD (by omega),sG (by omega),bV,<-hZ,bV,iO hj]
      · have hj2:=hj
        rw[hld] at hj2
        rw[bD (by omega),bD (by omega),bD (by omega),bD (by omega),bD (by omega),sG (by omega),bV,<-hZ,bV,vJ (by omega),iO hj]
      · have hj2:=hj
        rw[kN] at hj2
        rw[bD (by omega),bD (by omega),bD (by omega),bD (by omega),bD (by omega),sG (by omega),bV,t2 _ (by omega)]
        exact iO hj
  · have:i=ps.length:=by omega
    subst this
    obtain⟨n,hn⟩: ∃n,ps.length=n+1:=⟨ps.length - 1,by omega⟩
    repeat' (first
    |simp -implicitDefEqProofs (maxSteps:=9999999) (disch:=first|assumption|omega) only[aA,aC,facts,Nat.reduceAdd,aT, *]
    |((with_reducible refine aF (fun _=>?_) (fun _=>?_))<;>try omega))
    have htk:List.take (n+1) ps=ps:=by rw[<-hn,List.take_length]
    rw[htk]
    have hs1: ∀j,j<2*ps.length->dS 0 [(100,0,1),(101,1,2*ps.length),(1000,1000,fM Φ ps)] (101+j)=some (1+j):=fun j hj=>by
      simp only[dS,jJ]
      rw[if_neg (by omega),if_neg (by omega),if_pos (by omega)];exact congrArg some (by omega)
    have hs2: ∀j,j<fM Φ ps->dS 0 [(100,0,1),(101,1,2*ps.length),(1000,1000,fM Φ ps)] (1000+j)=some (1000+j):=fun j hj=>by
      simp only[dS,jJ]
      rw[if_neg (by omega),if_neg (by omega),if_neg (by omega),if_pos (by omega)];exact congrArg some (by omega)
    refine vI.seg [(100,0,1),(101,1,2*ps.length),(1000,1000,fM Φ ps)] (by simp [oH];omega) ?_ (by simp [iR,AV.ren,dS,jJ])
    simp only[bJ,List.cons_append,List.nil_append,aK,uD]
    refine aG.cons 100 rfl rfl (mQ 101 1 ps hs1) (aG.app (aG.famM (xP 1000 1000 ps hs2) (fun j hj=>hs1 j (by rw[iQ] at hj;exact hj)) fun j hj=>?_) (aG.famM (Ar 1000 1000 ps hs2) (fun j hj=>hs2 j (by rw[sF] at hj;exact hj)) fun j hj=>?_))
    · rw[bD (by omega),bV,iO hj]
    · rw[bD (by omega),bV,vJ (by rw[iQ];omega),iO hj]
end Go.Proofs.Pv
namespace Go.Proofs.Pv
open Go Go.Proofs
variable {Φ:oK}
structure Sc.goodU (Φ:oK) (s:Sc):Prop where
 lo:0<s.parts.length
 hi:s.parts.length<=400
 pa: ∀p∈s.parts,p.goodU Φ
 n:fM Φ s.parts<=900000
 b0:0<s.bars.length
 bh:s.bars.length<=1000000
 ba: ∀b∈s.bars,b.short
def scC (s:Sc):List (Nat×List AV):=[(0,cZ 2 s.parts),(1,s.bars.flatMap Ba.cells)]
def scT (Φ:oK) (s:Sc):List (Nat×List AV):=dW 2 (iV Φ 1000 s.parts)++dW 1000 (deep Φ 1000 s.parts)
theorem aI8 (s:Sc) (h:s.goodU Φ):Own Tryz.prog gl 16 [s.av] (.agg [.str s.title,.msl 1 0 s.bars.length 14,.msl 0 0 s.parts.length 5]) (scC s++scT Φ s) 2000000:=by
 have h1:=h.hi
 have h2:=h.n
 have hown:=aQv s.parts h.lo h.hi h.pa h.n
 have hba:=Qz s.bars h.bh h.ba
 obtain⟨n,hn⟩: ∃n,s.bars.length=n+1:=⟨s.bars.length - 1,by have:=h.b0;omega⟩
 rw[hn] at hba
 simp only[dY,bJ] at hba
 rw[scC,scT]
 (refine Own.intro 2 mix names (fn:=Tryz.f16) Tryz.func16 rfl fun F hF hro W=>?_;simp only[Tryz.ntmps16,Tryz.results16,aJ,Nat.reduceAdd,Nat.reduceSub])
 repeat' (first
  |simp -implicitDefEqProofs (maxSteps:=9999999) only[↓reduceIte,aA,aC,facts,Nat.reduceAdd,Nat.reduceEqDiff,Nat.reduceLeDiff,AV.cells,AV.one,Sc.av,nC,Yd,Gs,uD,oC,Dc,Nc,eX,fH,aK,aN,nV, *]
  |((with_reducible refine aS 38 ?_);refine Gt hF hro hown (rfl) ?_)
  |((with_reducible refine aS 37 ?_);refine vZ hF hro hba (rfl) ?_))
 have hs1: ∀j,j<2*s.parts.length->dS 0 [(9,0,1),(4,1,1),(10,2,2*s.parts.length),(1009,1000,fM Φ s.parts)] (10+j)=some (2+j):=fun j hj=>by
  simp only[dS,jJ]
  rw[if_neg (by omega),if_neg (by omega),if_neg (by omega),if_pos (by omega)];exact congrArg some (by omega)
 have hs2: ∀j,j<fM Φ s.parts->dS 0 [(9,0,1),(4,1,1),(10,2,2*s.parts.length),(1009,1000,fM Φ s.parts)] (1009+j)=some (1000+j):=fun j hj=>by
  simp only[dS,jJ]
  rw[if_neg (by omega),if_neg (by omega),if_neg (by omega),if_neg (by omega),if_pos (by omega)];exact congrArg some (by omega)
 refine vI.seg [(9,0,1),(4,1,1),(10,2,2*s.parts.length),(1009,1000,fM Φ s.parts)] (by simp [oH];omega) ?_ (by simp [AV.ren,AV.renL_eq,dS,jJ])
 simp only[List.cons_append,List.nil_append,aK,uD]
 refine aG.cons 9 rfl rfl (mQ 10 2 _ hs1) (aG.cons 4 rfl rfl (nV _) (aG.app (aG.famM (xP 1009 1000 _ hs2) (fun j hj=>hs1 j (by rw[iQ] at hj;exact hj)) fun j hj=>?_) (aG.famM (Ar 1009 1000 _ hs2) (fun j hj=>hs2 j (by rw[sF] at hj;exact hj)) fun j hj=>?_)))
 ·rw[bD (by omega),bD (by omega),bD (by omega),bD (by omega),bV,iO hj]
 ·rw[bD (by omega),bD (by omega),bD (by omega),bD (by omega),bV,vJ (by rw[iQ];omega),iO hj]
end Go.Proofs.Pv
