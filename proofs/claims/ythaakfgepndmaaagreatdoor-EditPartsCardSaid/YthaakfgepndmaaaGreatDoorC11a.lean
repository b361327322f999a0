/-
Layer 9's edits: copies of cells of which all lists stay open.
Conditions: none but those that each statement names.
-/
import Derived.Test.YthaakfgepndmaaaGreatDoorC09e
import Derived.Test.YthaakfgepndmaaaGreatDoorD08
import Derived.Test.YthaakfgepndmaaaGreatDoorC10a
set_option linter.unusedVariables false
set_option linter.unusedSimpArgs false
set_option maxRecDepth 100000
set_option maxHeartbeats 16000000
namespace Go.Proofs.Pv
open Go Go.Proofs
def kX:Nat->List Vo->List AV
 |_,[]=>[]
 |K,v::r=> .msl K 0 v.l.length 9::kX (K+1) r
def wI (v:Vo):List AV:=v.l.flatMap Ev.cells
theorem aB6: ∀(K:Nat) (l l':List Vo),kX K (l++l')=kX K l++kX (K+l.length) l'
 |K,[],l'=>rfl
 |K,v::l,l'=>by
  simp only[List.cons_append,kX,aB6 (K+1) l l',List.length_cons]
  rw[show K+1+l.length=K+(l.length+1) by omega]
theorem Ri: ∀(K:Nat) (l:List Vo),(kX K l).length=l.length
 |K,[]=>rfl
 |K,v::l=>by simp only[kX,List.length_cons,Ri (K+1) l]
theorem Ie {f:Nat->Option Nat}: ∀(K K':Nat) (l:List Vo),(∀j,j<l.length->f (K+j)=some (K'+j))->(kX K l).map (AV.ren f)=kX K' l
 |K,K',[],_=>rfl
 | K,K',v::l,h=>by
  have h0:=h 0 (by simp)
  simp only[Nat.add_zero] at h0
  have:=Ie (K+1) (K'+1) l fun j hj=>by
   have:=h (j+1) (by simp only[List.length_cons];omega)
   rw[show K+1+j=K+(j+1) by omega,show K'+1+j=K'+(j+1) by omega];exact this
  simp only[kX,List.map_cons,AV.ren,h0,this]
theorem aAz {f:Nat->Option Nat} (v:Vo):(wI v).map (AV.ren f)=wI v:=fZ v.l
theorem aPr {f:Nat->Option Nat} (l:List Vo):(l.map wI).map (List.map (AV.ren f))=l.map wI:=by
 induction l with
 |nil=>rfl
 |cons v l ih=>simp only[List.map_cons,aAz,ih]
theorem take_snoc {α:Type} {l:List α} {i:Nat} (h:i<l.length):l.take (i+1)=l.take i++[l[i]]:=List.take_succ_eq_append_getElem h
theorem aM5 (c:List Vo) (h:wL c) (h9:c.length<=800):Own Tryz.prog gl 41 [bV c] (.msl 0 0 c.length 1) ((0,kX 1 c)::dV 1 (c.map wI)) 1000:=by
  have hl:=h.hi
  unfold bV
  (refine Own.intro 2 mix names (fn:=Tryz.f41) Tryz.func41 rfl fun F hF hro W=>?_;simp only[Tryz.ntmps41,Tryz.results41,aI,Nat.reduceAdd,Nat.reduceSub])
  repeat' (simp -implicitDefEqProofs (maxSteps:=9999999) (disch:=first|assumption|omega) only[aA,aC,facts,Nat.reduceAdd, *])
  refine jO (fD 21 [3,6,7,8]) 1000 c.length (fun i (_:Unit)=>⟨[.ud,.ud,.ud,iM 100 1 i,.ud,.ud,.sl 1 (c.map Vo.av) .none,.int .i64 (c.length:Nat),.int .i64 (i:Nat),.ud,.ud,.ud,.ud,.ud,.ud,.ud,.ud,.ud,.ud,.ud,.ud],[]⟩) (fun i _=>⟨hC (jE 100 (kX 101 (c.take i)) i++dV 101 ((c.take i).map wI)),1000⟩) (fun i _=>i<1000001) ⟨(),by omega,bJ 5 [],gK 5 [],dG.of_fit rfl rfl rfl,aG.nil,rfl,rfl⟩ ?_
  rintro i x hi hi2
  rcases Nat.lt_or_ge i c.length with hlt|hge
  · have hv:=h.vo c[i] (List.getElem_mem hlt)
    obtain⟨n,hn⟩: ∃n,c[i].l.length=n+1:=⟨c[i].l.length - 1,by have:=hv.lo;omega⟩
    have hown:=qC c[i].l hv.hi hv.ev
    rw[hn] at hown
    simp only[dX,bM] at hown
    rcases i with _|i
    · simp only[aX,aY,List.take_zero,List.map_nil,dV,List.append_nil,aO]
      repeat' (first
    |simp -implicitDefEqProofs (maxSteps:=9999999) (disch:=first|assumption|omega) only[aA,aC,facts,if_pos,Nat.reduceAdd,Nat.reduceLT,Nat.reduceLeDiff,Int.reduceLE,Int.reduceAdd,gB,cO,List.flatMap_cons,List.flatMap_nil,AV.cells,true_or,AV.one,qW,wM,mM,eX,fH,aK,aO,fZ,wrap_in,List.getElem?_eq_getElem,Vo.av,aV, *]
    |((with_reducible refine aF (fun _=>?_) (fun _=>?_))<;>try omega)
    | ((with_reducible refine aS 52 ?_);refine vG hF hro hown (rfl) ?_))
      refine dM 0 () hlt (by omega) (by omega) (dR 5 [(1011,100,1),(1008,101,1)]) (xF 5 [(1011,100,1),(1008,101,1)]) (dG.seg (by simp [nT]) (by omega) rfl) ?_ rfl rfl
      simp only[take_snoc hlt,List.take_zero,List.nil_append,List.map_cons,List.map_nil,bM,dV,kX,List.cons_append,aK,aO]
      exact aG.cons 1011 rfl rfl (by simp [AV.ren,dR,jF,hn]) (aG.cons 1008 rfl rfl (fZ _) aG.nil)
    · have hT:iF 101 1000 (hC (dV 101 ((c.take (i+1)).map wI))):=iF.fam (by rw[List.length_map,List.length_take];omega)
      have hfl:(kX 101 (c.take (i+1))).length=i+1:=by rw[Ri,List.length_take];omega
      have t1:=hT.lo
      have t2:=hT.hi
      have t3:=hT.dlo
      have t4:=hT.dhi
      simp only[dX,bM,List.cons_append,List.nil_append,aK]
      generalize hZ:hC (dV 101 ((c.take (i+1)).map wI))=Z at t1 t2 t3 t4 ⊢
      repeat' (first
    |simp -implicitDefEqProofs (maxSteps:=9999999) (disch:=first|assumption|omega) only[aA,aC,facts,if_pos,if_neg,Nat.reduceAdd,Nat.reduceEqDiff,Nat.reduceLT,Nat.reduceLeDiff,gB,cO,List.flatMap_cons,List.flatMap_nil,AV.cells,AV.one,qW,wM,mM,eX,fH,aK,aO,fZ,wrap_in,List.getElem?_eq_getElem,Vo.av,aV, *]
    |((with_reducible refine aF (fun _=>?_) (fun _=>?_))<;>try omega)
    | ((with_reducible refine aS 52 ?_);refine vG hF hro hown (rfl) ?_))
      refine dM (i+1) () hlt (by omega) (by omega) (dR 5 [(1011,100,1),(1008,101+(i+1),1),(101,101,i+1)]) (xF 5 [(1011,100,1),(1008,101+(i+1),1),(101,101,i+1)]) (dG.seg (by simp [nT];omega) (by omega) rfl) ?_ rfl rfl
      have hmin:min (i+1) c.length=i+1:=by omega
      have hs: ∀j,j<i+1->dR 5 [(1011,100,1),(1008,101+(i+1),1),(101,101,i+1)] (101+j)=some (101+j):=fun j hj=>by
        simp only[dR,jF]
        rw[if_neg (by omega),if_neg (by omega),if_neg (by omega),if_pos (by omega)];congr 1;omega
      simp only[bM,take_snoc hlt,aB6,List.map_append,Hm,List.map_cons,List.map_nil,List.length_map,List.length_take,hmin,List.cons_append,List.nil_append,aK,sU,kX,dV,aO]
      refine aG.cons 1011 rfl rfl ?_ (aG.app (aG.fam (K:=101) (l:=(c.take (i+1)).map wI) rfl fun j h1 h2=>?_) (aG.cons 1008 rfl rfl (fZ _) aG.nil))
      · rw[List.map_append,Ie 101 101 _ fun j hj=>hs j (by rw[List.length_take] at hj;omega)]
        simp [AV.ren,dR,jF,hn]
      · rw[List.length_map,List.length_take] at h1
        refine⟨hs j (by omega),?_,by rw[List.getElem_map];exact aAz _⟩
        rw[bD (by omega),bD (by omega),bD (by omega),bD (by omega),rH (by omega),<-hZ]
        exact iI h2
  · have:i=c.length:=by omega
    subst this
    obtain⟨n,hn⟩: ∃n,c.length=n+1:=⟨c.length - 1,by have:=h.lo;omega⟩
    repeat' (first
    |simp -implicitDefEqProofs (maxSteps:=9999999) (disch:=first|assumption|omega) only[aA,aC,facts,Nat.reduceAdd,aV, *]
    |((with_reducible refine aF (fun _=>?_) (fun _=>?_))<;>try omega))
    have htk:List.take (n+1) c=c:=by rw[<-hn,List.take_length]
    rw[htk]
    have hs: ∀j,j<c.length->dR 0 [(100,0,1),(101,1,c.length)] (101+j)=some (1+j):=fun j hj=>by
      simp only[dR,jF]
      rw[if_neg (by omega),if_neg (by omega),if_pos (by omega)];congr 1;omega
    refine uM.seg [(100,0,1),(101,1,c.length)] (by simp [nT];omega) ?_ (by simp [iM,AV.ren,dR,jF])
    simp only[bM,List.cons_append,List.nil_append,aK]
    refine aG.cons 100 rfl rfl (Ie 101 1 c hs) (aG.fam (K:=101) (l:=c.map wI) rfl fun j h1 h2=>⟨hs j (by simpa using h1),?_,by rw[List.getElem_map];exact aAz _⟩)
    rw[bD (by omega)]
    exact iI h2
def uH (k:Nat):Bool:=decide (1000<=k)
def jG (hp:Hp) (K:Nat) (l:List (List AV)):Prop:= ∀q (h:q<l.length),hp (K+q)=some (.cells l[q])
theorem jG.head {hp:Hp} {K:Nat} {x:List AV} {l:List (List AV)} (h:jG hp K (x::l)):hp K=some (.cells x):=by
 have:=h 0 (by simp)
 simpa using this
theorem jG.tail {hp:Hp} {K:Nat} {x:List AV} {l:List (List AV)} (h:jG hp K (x::l)):jG hp (K+1) l:=fun q hq=>by
 have:=h (q+1) (by simp only[List.length_cons];omega)
 rw[show K+(q+1)=K+1+q by omega] at this
 simpa using this
theorem jG.left {hp:Hp} {K:Nat} {a b:List (List AV)} (h:jG hp K (a++b)):jG hp K a:=fun q hq=>by
 have:=h q (by rw[List.length_append];omega)
 rwa [List.getElem_append_left hq] at this
theorem jG.right {hp:Hp} {K:Nat} {a b:List (List AV)} (h:jG hp K (a++b)):jG hp (K+a.length) b:=fun q hq=>by
 have:=h (a.length+q) (by rw[List.length_append];omega)
 rw[List.getElem_append_right (by omega),show K+(a.length+q)=K+a.length+q by omega] at this
 simpa using this
theorem jG.mono {hp hp':Hp} {K:Nat} {l:List (List AV)} (h:jG hp K l) (hm: ∀k,K<=k->k<K+l.length->hp' k=hp k):jG hp' K l:=fun q hq=>by rw[hm _ (by omega) (by omega)];exact h q hq
theorem jG.fam {K:Nat} {l:List (List AV)}:jG (hget (hC (dV K l))) K l:=fun q hq=>iI hq
theorem aCg {hp:Hp} {d:Nat}: ∀(K:Nat) (c:List Vo),jG hp K (c.map wI)->(kX K c).map (AV.nowS uH hp (d+1))=c.map fun v=> .sl 9 (v.l.map Ev.av) .none
 |K,[],_=>rfl
 |K,v::c,h=>by
  simp only[List.map_cons] at h
  simp only[kX,List.map_cons,aCg (K+1) c h.tail]
  rw[aIm v.l rfl h.head]
theorem Oe {hp:Hp} {d k n:Nat} (c:List Vo) {E:List AV} (hk:hp k=some (.cells E)) (h1:1000<=k) (hE:E.map (AV.nowS uH hp d)=c.map fun v=> .sl 9 (v.l.map Ev.av) .none) (hn:n=c.length):AV.nowS uH hp (d+1) (.msl k 0 n 1)=bV c:=by
 subst hn
 have hlen:E.length=c.length:=by have:=congrArg List.length hE;simpa using this
 refine(oO hk (by decide) (hE.trans (nO (c:=fun v:Vo=>AV.sl 9 (v.l.map Ev.av) .none) c).symm) (by omega) (kS (fun _=>rfl) c)).trans ?_
 rw[show uH k=true from decide_eq_true h1,Bool.or_true,kZ (c:=fun v:Vo=>[AV.sl 9 (v.l.map Ev.av) .none]) (k:=1) (fun _=>rfl) c]
 rfl
structure CF where
 sz:List Vo->Nat
 blk:Nat->List Vo->List (List AV)
 cell:Nat->List Vo->AV
 len: ∀K c,(blk K c).length=sz c
 ren: ∀(f:Nat->Option Nat) (K K':Nat) (c:List Vo),(∀j,j<sz c->f (K+j)=some (K'+j))->(blk K c).map (List.map (AV.ren f))=blk K' c
 cren: ∀(f:Nat->Option Nat) (K K':Nat) (c:List Vo),(∀j,j<sz c->f (K+j)=some (K'+j))->AV.ren f (cell K c)=cell K' c
 now: ∀(hp:Hp) (d K:Nat) (c:List Vo),jG hp K (blk K c)->1000<=K->AV.nowS uH hp (d+2) (cell K c)=bV c
theorem aE7 {f:Nat->Option Nat} {K K' n m:Nat} (hm:1<=m) (h: ∀j,j<m->f (K+j)=some (K'+j)):AV.ren f (.msl K 0 n 1)= .msl K' 0 n 1:=by
 have h0:=h 0 (by omega)
 simp only[Nat.add_zero] at h0
 simp only[AV.ren,h0]
def Yz:CF where
 sz c:=1+c.length
 blk K c:=kX (K+1) c::c.map wI
 cell K c:= .msl K 0 c.length 1
 len K c:=by simp only[List.length_cons,List.length_map];omega
 ren f K K' c h:=by
  have:=Ie (f:=f) (K+1) (K'+1) c fun j hj=>by
   have:=h (1+j) (by omega)
   rw[show K+1+j=K+(1+j) by omega,show K'+1+j=K'+(1+j) by omega];exact this
  rw[List.map_cons,this,aPr]
 cren f K K' c h:=aE7 (by omega) h
 now hp d K c h hK:=Oe c h.head hK (aCg (K+1) c h.tail) rfl
theorem yB (c:List Vo):(c.flatMap fC).length=c.length:=by rw[flat_length (k:=1) (fun _=>rfl),Nat.mul_one]
def aRb:CF where
 sz c:=1
 blk K c:=[c.flatMap fC]
 cell K c:= .msl K 0 c.length 1
 len K c:=rfl
 ren f K K' c h:=by rw[List.map_cons,List.map_nil,jK (c:=fC) (fun _=>rfl)]
 cren f K K' c h:=aE7 (by omega) h
 now hp d K c h hK:=by
  refine Oe c h.head hK ?_ rfl
  rw[lL (c:=fC) (fun _=>rfl)]
  exact nO (c:=fun v:Vo=>AV.sl 9 (v.l.map Ev.av) .none) c
def Za:CF where
 sz c:=0
 blk K c:=[]
 cell K c:=bV c
 len K c:=rfl
 ren f K K' c h:=rfl
 cren f K K' c h:=rfl
 now hp d K c h hK:=rfl
def cnt (Φ:CF):List (List Vo)->Nat
 |[]=>0
 |c::r=>Φ.sz c+cnt Φ r
def eG (Φ:CF):Nat->List (List Vo)->List AV
 |_,[]=>[]
 |K,c::r=>Φ.cell K c::eG Φ (K+Φ.sz c) r
def csB (Φ:CF):Nat->List (List Vo)->List (List AV)
 |_,[]=>[]
 |K,c::r=>Φ.blk K c++csB Φ (K+Φ.sz c) r
section
variable {Φ:CF}
theorem Et: ∀l l':List (List Vo),cnt Φ (l++l')=cnt Φ l+cnt Φ l'
 |[],l'=>by simp [cnt]
 |c::l,l'=>by simp only[List.cons_append,cnt,Et l l'];omega
theorem aQa (l:List (List Vo)) (i:Nat):cnt Φ (l.take i)<=cnt Φ l:=by
 conv=>rhs;rw[<-List.take_append_drop i l,Et]
 omega
theorem kH: ∀(K:Nat) (l:List (List Vo)),(csB Φ K l).length=cnt Φ l
 |K,[]=>rfl
 |K,c::l=>by simp only[csB,cnt,List.length_append,Φ.len,kH (K+Φ.sz c) l]
theorem tC: ∀(K:Nat) (l:List (List Vo)),(eG Φ K l).length=l.length
 |K,[]=>rfl
 |K,c::l=>by simp only[eG,List.length_cons,tC (K+Φ.sz c) l]
theorem Rt: ∀(K:Nat) (l l':List (List Vo)),eG Φ K (l++l')=eG Φ K l++eG Φ (K+cnt Φ l) l'
 |K,[],l'=>rfl
 |K,c::l,l'=>by
  simp only[List.cons_append,eG,Rt (K+Φ.sz c) l l',cnt]
  rw[Nat.add_assoc]
theorem aA4: ∀(K:Nat) (l l':List (List Vo)),csB Φ K (l++l')=csB Φ K l++csB Φ (K+cnt Φ l) l'
 |K,[],l'=>rfl
 |K,c::l,l'=>by
  simp only[List.cons_append,csB,aA4 (K+Φ.sz c) l l',cnt,List.append_assoc]
  rw[Nat.add_assoc]
theorem tH {f:Nat->Option Nat}: ∀(K K':Nat) (l:List (List Vo)),(∀j,j<cnt Φ l->f (K+j)=some (K'+j))->(eG Φ K l).map (AV.ren f)=eG Φ K' l
 |K,K',[],_=>rfl
 | K,K',c::l,h=>by
  have h0:=Φ.cren f K K' c fun j hj=>h j (by simp only[cnt];omega)
  have:=tH (K+Φ.sz c) (K'+Φ.sz c) l fun j hj=>by
   rw[Nat.add_assoc,Nat.add_assoc];exact h (Φ.sz c+j) (by simp only[cnt];omega)
  simp only[eG,List.map_cons,h0,this]
theorem yK {f:Nat->Option Nat}: ∀(K K':Nat) (l:List (List Vo)),(∀j,j<cnt Φ l->f (K+j)=some (K'+j))->(csB Φ K l).map (List.map (AV.ren f))=csB Φ K' l
 |K,K',[],_=>rfl
 | K,K',c::l,h=>by
  have h1:=Φ.ren f K K' c fun j hj=>h j (by simp only[cnt];omega)
  have:=yK (K+Φ.sz c) (K'+Φ.sz c) l fun j hj=>by
   rw[Nat.add_assoc,Nat.add_assoc];exact h (Φ.sz c+j) (by simp only[cnt];omega)
  simp only[csB,List.map_append,h1,this]
theorem upk {n K j:Nat}:up n (K+j)=some (K+n+j):=by show some _=some _;congr 1;omega
theorem aNk {n K:Nat} {c:List Vo}:(Φ.blk K c).map (List.map (AV.ren (up n)))=Φ.blk (K+n) c:=Φ.ren _ K (K+n) c fun j _=>upk
theorem Xf {n K:Nat} {l:List (List Vo)}:(eG Φ K l).map (AV.ren (up n))=eG Φ (K+n) l:=tH K (K+n) l fun j _=>upk
theorem aE8 {n K:Nat} {l:List (List Vo)}:(csB Φ K l).map (List.map (AV.ren (up n)))=csB Φ (K+n) l:=yK K (K+n) l fun j _=>upk
theorem yL {hp:Hp} {d:Nat}: ∀(K:Nat) (cs:List (List Vo)),1000<=K->jG hp K (csB Φ K cs)->(eG Φ K cs).map (AV.nowS uH hp (d+2))=cs.map bV
 |K,[],_,_=>rfl
 |K,c::cs,hK,h=>by
  simp only[csB] at h
  have h3:=h.right
  rw[Φ.len] at h3
  simp only[eG,List.map_cons,yL (K+Φ.sz c) cs (by omega) h3,Φ.now hp d K c h.left hK]
end
theorem aE9 (Φ:CF) (hcm: ∀K c,Φ.cell K c= .msl K 0 c.length 1) (pos: ∀c,1<=Φ.sz c) (top: ∀c,c.length<=800->Φ.sz c<=900) (own: ∀c,wL c->c.length<=800->Own Tryz.prog gl 41 [bV c] (.msl 0 0 c.length 1) ([]++dV 0 (Φ.blk 0 c)) 1000) (cs:List (List Vo)) (h0:0<cs.length) (hl:cs.length<=1000000) (hs: ∀c∈cs,wL c/\c.length<=800) (h9:cnt Φ cs<=90000):
    Own Tryz.prog gl 40 [.sl 1 (cs.map bV) .none,.fn 41 [] []] (.msl 0 0 cs.length 1) ([(0,eG Φ 1 cs)]++dV 1 (csB Φ 1 cs)) 100000:=by
  (refine Own.intro 2 mix names (fn:=Tryz.f40) Tryz.func40 rfl fun F hF hro W=>?_;simp only[Tryz.ntmps40,Tryz.results40,aI,Nat.reduceAdd,Nat.reduceSub])
  repeat' (simp -implicitDefEqProofs (maxSteps:=9999999) (disch:=first|assumption|omega) only[aA,aC,facts,Nat.reduceAdd, *])
  refine jO (fD 22 [1,5,8,9,10]) 100000 cs.length (fun i (_:Unit)=>⟨[.ud,.fn 41 [] [],.ud,.ud,.ud,iM 100 1 i,.ud,.ud,.sl 1 (cs.map bV) .none,.int .i64 (cs.length:Nat),.int .i64 (i:Nat),.ud,.ud,.ud,.ud,.ud,.ud,.ud,.ud,.ud,.ud,.ud],[]⟩) (fun i _=>⟨hC (jE 100 (eG Φ 101 (cs.take i)) i++dV 101 (csB Φ 101 (cs.take i))),100000⟩) (fun i _=>i<1000001) ⟨(),by omega,bJ 5 [],gK 5 [],dG.of_fit rfl rfl rfl,aG.nil,rfl,rfl⟩ ?_
  rintro i x hi hi2
  rcases Nat.lt_or_ge i cs.length with hlt|hge
  · have hv:=hs cs[i] (List.getElem_mem hlt)
    have hown:=own cs[i] hv.1 hv.2
    have hsz:=pos cs[i]
    have hst:=top cs[i] hv.2
    have hcl:cnt Φ cs=cnt Φ (cs.take i)+Φ.sz cs[i]+cnt Φ (cs.drop (i+1)):=by
      conv=>lhs;rw[<-List.take_append_drop (i+1) cs,Et,take_snoc hlt,Et]
      simp [cnt]
    rcases i with _|i
    · simp only[aX,aY,List.take_zero,csB,dV,List.append_nil,aO]
      repeat' (first
    |simp -implicitDefEqProofs (maxSteps:=9999999) (disch:=first|assumption|omega) only[aA,aC,facts,if_pos,Nat.reduceAdd,Nat.reduceLT,Nat.reduceLeDiff,Int.reduceLE,Int.reduceAdd,gB,cO,List.flatMap_cons,List.flatMap_nil,AV.cells,true_or,AV.one,Io,Ip,mM,nP,aNk,fH,aO,wrap_in,List.getElem?_eq_getElem,bV,aV, *]
    |((with_reducible refine aF (fun _=>?_) (fun _=>?_))<;>try omega)
    | ((with_reducible refine aS 41 ?_);refine Ew hF hro hown (rfl) ?_))
      have hs2: ∀j,j<Φ.sz cs[0]->dR 5 [(101008,100,1),(100007,101,Φ.sz cs[0])] (100007+j)=some (101+j):=fun j hj=>by
        simp only[dR,jF]
        rw[if_neg (by omega),if_neg (by omega),if_pos (by omega)];exact congrArg some (by omega)
      have hs0:dR 5 [(101008,100,1),(100007,101,Φ.sz cs[0])] 100007=some 101:=by
        have:=hs2 0 (by omega)
        simpa using this
      refine dM 0 () hlt (by omega) (by omega) (dR 5 [(101008,100,1),(100007,101,Φ.sz cs[0])]) (xF 5 [(101008,100,1),(100007,101,Φ.sz cs[0])]) (dG.seg (by simp [nT];omega) (by omega) rfl) ?_ rfl rfl
      simp only[take_snoc hlt,List.take_zero,List.nil_append,bM,eG,hcm,csB,List.append_nil,List.cons_append,aK]
      refine aG.cons 101008 rfl rfl (by simp only[List.map_cons,List.map_nil,AV.ren,hs0]) (aG.famM (Φ.ren _ _ _ _ hs2) (fun j hj=>hs2 j (by rw[Φ.len] at hj;exact hj)) fun j hj=>?_)
      have hj2:=hj
      rw[Φ.len] at hj2
      repeat rw[bD (by omega)]
      exact iI hj
    · have hT:iF 101 100000 (hC (dV 101 (csB Φ 101 (cs.take (i+1))))):=iF.fam (by rw[kH];omega)
      have hfl:(eG Φ 101 (cs.take (i+1))).length=i+1:=by rw[tC,List.length_take];omega
      have t1:=hT.lo
      have t2:=hT.hi
      have t3:=hT.dlo
      have t4:=hT.dhi
      simp only[dX,bM,List.cons_append,List.nil_append,aK]
      generalize hZ:hC (dV 101 (csB Φ 101 (cs.take (i+1))))=Z at t1 t2 t3 t4 ⊢
      repeat' (first
    |simp -implicitDefEqProofs (maxSteps:=9999999) (disch:=first|assumption|omega) only[aA,aC,facts,if_pos,Nat.reduceAdd,Nat.reduceEqDiff,Nat.reduceLT,Nat.reduceLeDiff,gB,cO,List.flatMap_cons,List.flatMap_nil,AV.cells,AV.one,Io,Ip,mM,nP,aNk,fH,aO,wrap_in,List.getElem?_eq_getElem,bV,aV, *]
    |((with_reducible refine aF (fun _=>?_) (fun _=>?_))<;>try omega)
    | ((with_reducible refine aS 41 ?_);refine Ew hF hro hown (rfl) ?_))
      have hlc:(csB Φ 101 (cs.take (i+1))).length=cnt Φ (cs.take (i+1)):=kH _ _
      generalize hTT:cnt Φ (cs.take (i+1))=T at hcl hlc
      have hs1: ∀j,j<T->dR 5 [(101008,100,1),(100007,101+T,Φ.sz cs[i+1]),(101,101,T)] (101+j)=some (101+j):=fun j hj=>by
        simp only[dR,jF]
        rw[if_neg (by omega),if_neg (by omega),if_neg (by omega),if_pos (by omega)];exact congrArg some (by omega)
      have hs2: ∀j,j<Φ.sz cs[i+1]->dR 5 [(101008,100,1),(100007,101+T,Φ.sz cs[i+1]),(101,101,T)] (100007+j)=some (101+T+j):=fun j hj=>by
        simp only[dR,jF]
        rw[if_neg (by omega),if_neg (by omega),if_pos (by omega)];exact congrArg some (by omega)
      have hs0:dR 5 [(101008,100,1),(100007,101+T,Φ.sz cs[i+1]),(101,101,T)] 100007=some (101+T):=by
        have:=hs2 0 (by omega)
        simpa using this
      refine dM (i+1) () hlt (by omega) (by omega) (dR 5 [(101008,100,1),(100007,101+T,Φ.sz cs[i+1]),(101,101,T)]) (xF 5 [(101008,100,1),(100007,101+T,Φ.sz cs[i+1]),(101,101,T)]) (dG.seg (by simp [nT];omega) (by omega) rfl) ?_ rfl rfl
      simp only[bM,take_snoc hlt,Rt,aA4,Hm,hlc,hTT,List.cons_append,List.nil_append,aK,sU,eG,hcm,csB,List.append_nil]
      refine aG.cons 101008 rfl rfl ?_ (aG.app (aG.famM (yK 101 101 _ (by rw[hTT];exact hs1)) (fun j hj=>hs1 j (by omega)) fun j hj=>?_) (aG.famM (Φ.ren _ _ _ _ hs2) (fun j hj=>hs2 j (by rw[Φ.len] at hj;exact hj)) fun j hj=>?_))
      · rw[List.map_append,tH 101 101 _ (by rw[hTT];exact hs1)]
        simp only[List.map_cons,List.map_nil,AV.ren,hs0]
      · repeat rw[bD (by omega)]
        rw[rH (by omega),bW,<-hZ,iI hj]
      · have hj2:=hj
        rw[Φ.len] at hj2
        repeat rw[bD (by omega)]
        rw[rH (by omega),bW,t2 _ (by omega)]
        exact iI hj
  · have:i=cs.length:=by omega
    subst this
    obtain⟨n,hn⟩: ∃n,cs.length=n+1:=⟨cs.length - 1,by omega⟩
    repeat' (first
    |simp -implicitDefEqProofs (maxSteps:=9999999) (disch:=first|assumption|omega) only[aA,aC,facts,Nat.reduceAdd,aV, *]
    |((with_reducible refine aF (fun _=>?_) (fun _=>?_))<;>try omega))
    have htk:List.take (n+1) cs=cs:=by rw[<-hn,List.take_length]
    rw[htk]
    have hs: ∀j,j<cnt Φ cs->dR 0 [(100,0,1),(101,1,cnt Φ cs)] (101+j)=some (1+j):=fun j hj=>by
      simp only[dR,jF]
      rw[if_neg (by omega),if_neg (by omega),if_pos (by omega)];exact congrArg some (by omega)
    refine uM.seg [(100,0,1),(101,1,cnt Φ cs)] (by simp [nT];omega) ?_ (by simp [iM,AV.ren,dR,jF])
    simp only[bM,List.cons_append,List.nil_append,aK]
    refine aG.cons 100 rfl rfl (tH 101 1 cs hs) (aG.famM (yK 101 1 cs hs) (fun j hj=>hs j (by rw[kH] at hj;exact hj)) fun j hj=>?_)
    rw[bD (by omega)]
    exact iI hj
structure nX extends CF where
 each: ∀cs:List (List Vo),0<cs.length->cs.length<=1000000->(∀c∈cs,wL c/\c.length<=800)->cnt toCF cs<=90000->
  Own Tryz.prog gl 40 [.sl 1 (cs.map bV) .none,.fn 41 [] []] (.msl 0 0 cs.length 1) ([(0,eG toCF 1 cs)]++dV 1 (csB toCF 1 cs)) 100000
instance:CoeOut nX CF:=⟨nX.toCF⟩
def dI:nX where
 toCF:=Yz
 each cs h0 hl hs h9:=aE9 Yz (fun _ _=>rfl) (fun c=>by show 1<=1+c.length;omega) (fun c h=>by show 1+c.length<=900;omega) (fun c h h8=>aM5 c h h8) cs h0 hl hs h9
def fU:nX where
 toCF:=aRb
 each cs h0 hl hs h9:=aE9 aRb (fun _ _=>rfl) (fun c=>Nat.le_refl 1) (fun c h=>by show 1<=900;omega) (fun c h h8=>by
  have:=Cc c ⟨h.hi,fun v hv=>⟨(h.vo v hv).hi,(h.vo v hv).ev⟩⟩
  obtain⟨n,hn⟩: ∃n,c.length=n+1:=⟨c.length - 1,by have:=h.lo;omega⟩
  rw[hn] at this
  show Own Tryz.prog gl 41 [bV c] (.msl 0 0 c.length 1) ([]++dV 0 [c.flatMap fC]) 1000
  rw[hn]
  exact Own.more this (by omega)) cs h0 hl hs h9
theorem aA5: ∀(K:Nat) (cs:List (List Vo)),eG Za K cs=cs.flatMap fF/\csB Za K cs=[]/\cnt Za cs=0
 |K,[]=>⟨rfl,rfl,rfl⟩
 |K,c::cs=>by
  obtain⟨h1,h2,h3⟩:=aA5 (K+Za.sz c) cs
  exact⟨by rw[eG,h1];rfl,by rw[csB,h2];rfl,by rw[cnt,h3];rfl⟩
def pG:nX where
 toCF:=Za
 each cs h0 hl hs h9:=by
  have:=Rh cs hl fun c hc=>⟨(hs c hc).1.hi,fun v hv=>⟨((hs c hc).1.vo v hv).hi,((hs c hc).1.vo v hv).ev⟩⟩
  obtain⟨n,hn⟩: ∃n,cs.length=n+1:=⟨cs.length - 1,by omega⟩
  obtain⟨h1,h2,_⟩:=aA5 1 cs
  rw[h1,h2]
  rw[hn] at this ⊢
  exact Own.more this (by omega)
end Go.Proofs.Pv
namespace Go.Proofs.Pv
open Go Go.Proofs
variable {Φ:nX}
structure Pa.goodU (Φ:nX) (p:Pa):Prop where
 g:p.good
 d:0<p.dyns.length
 c: ∀c∈p.cells,c.length<=800
 n:cnt Φ p.cells<=90000
theorem aSr (p:Pa) (h:p.goodU Φ):Own Tryz.prog gl 39 [p.av] (.agg [.str p.name,.int .i64 p.clef,.int .i64 p.channel,.msl 0 0 p.cells.length 1,.msl 1 0 p.dyns.length 1]) ([(0,eG Φ 2 p.cells),(1,p.dyns.flatMap fP)]++dV 2 (csB Φ 2 p.cells)) 100000:=by
 have hn:=h.n
 have hown:Own Tryz.prog gl 40 [.sl 1 (p.cells.map bV) .none,.fn 41 [] []] (.msl 0 0 p.cells.length 1) ([(0,eG Φ 1 p.cells)]++dV 1 (csB Φ 1 p.cells)) 100000:=Φ.each p.cells h.g.lo h.g.hi (fun c hc=>⟨h.g.ce c hc,h.c c hc⟩) hn
 obtain⟨b,hb⟩: ∃b,p.dyns.length=b+1:=⟨p.dyns.length - 1,by have:=h.d;omega⟩
 have hdy:=Py p.dyns h.g.dh h.g.dy
 rw[hb] at hdy ⊢
 simp only[dX,bM] at hdy
 (refine Own.intro 2 mix names (fn:=Tryz.f39) Tryz.func39 rfl fun F hF hro W=>?_;simp only[Tryz.ntmps39,Tryz.results39,aI,Nat.reduceAdd,Nat.reduceSub])
 repeat' (first
  |simp -implicitDefEqProofs (maxSteps:=9999999) (disch:=first|assumption|omega) only[aA,aC,facts,if_pos,Nat.reduceAdd,Nat.reduceLeDiff,AV.cells,AV.one,Pa.av,mM,Xf,nP,aE8,eX,fH,aK,aO,nI, *]
  |((with_reducible refine aS 40 ?_);refine Ew hF hro hown (rfl) ?_)
  |((with_reducible refine aS 42 ?_);refine vG hF hro hdy (rfl) ?_))
 have hs: ∀j,j<cnt Φ p.cells->dR 0 [(4,0,1),(100008,1,1),(5,2,cnt Φ p.cells)] (5+j)=some (2+j):=fun j hj=>by
  simp only[dR,jF]
  rw[if_neg (by omega),if_neg (by omega),if_neg (by omega),if_pos (by omega)];exact congrArg some (by omega)
 refine uM.seg [(4,0,1),(100008,1,1),(5,2,cnt Φ p.cells)] (by simp [nT];omega) ?_ (by simp [AV.ren,AV.renL_eq,dR,jF])
 simp only[List.cons_append,List.nil_append,aK]
 refine aG.cons 4 rfl rfl (tH 5 2 _ hs) (aG.cons 100008 (by simp [hget]) (by simp [dR,jF]) (nI _) (aG.famM (yK 5 2 _ hs) (fun j hj=>hs j (by rw[kH] at hj;exact hj)) fun j hj=>?_))
 rw[kH] at hj
 rw[bD (by omega),bD (by omega),bD (by omega),bD (by omega)]
 exact iI (by rw[kH];exact hj)
def dA:Nat->List Pa->List AV
 |_,[]=>[]
 |R,p::r=> .str p.name:: .int .i64 p.clef:: .int .i64 p.channel:: .msl R 0 p.cells.length 1:: .msl (R+1) 0 p.dyns.length 1::dA (R+2) r
def iR (Φ:nX):Nat->List Pa->List (List AV)
 |_,[]=>[]
 |D,p::r=>eG Φ D p.cells::p.dyns.flatMap fP::iR Φ (D+cnt Φ p.cells) r
def deep (Φ:nX):Nat->List Pa->List (List AV)
 |_,[]=>[]
 |D,p::r=>csB Φ D p.cells++deep Φ (D+cnt Φ p.cells) r
def fM (Φ:nX):List Pa->Nat
 |[]=>0
 |p::r=>cnt Φ p.cells+fM Φ r
theorem Nw: ∀l l':List Pa,fM Φ (l++l')=fM Φ l+fM Φ l'
 |[],l'=>by simp [fM]
 |c::l,l'=>by simp only[List.cons_append,fM,Nw l l'];omega
theorem kR: ∀(R:Nat) (l:List Pa),(dA R l).length=l.length*5
 |R,[]=>rfl
 |R,p::l=>by simp only[dA,List.length_cons,kR (R+2) l];omega
theorem iL: ∀(D:Nat) (l:List Pa),(iR Φ D l).length=2*l.length
 |D,[]=>rfl
 |D,p::l=>by simp only[iR,List.length_cons,iL (D+cnt Φ p.cells) l];omega
theorem rG: ∀(D:Nat) (l:List Pa),(deep Φ D l).length=fM Φ l
 |D,[]=>rfl
 |D,p::l=>by simp only[deep,fM,List.length_append,kH,rG (D+cnt Φ p.cells) l]
theorem Rl: ∀(R:Nat) (l l':List Pa),dA R (l++l')=dA R l++dA (R+2*l.length) l'
 |R,[],l'=>rfl
 |R,p::l,l'=>by
  simp only[List.cons_append,dA,Rl (R+2) l l',List.length_cons]
  rw[show R+2+2*l.length=R+2*(l.length+1) by omega]
theorem Yt: ∀(D:Nat) (l l':List Pa),iR Φ D (l++l')=iR Φ D l++iR Φ (D+fM Φ l) l'
 |D,[],l'=>rfl
 |D,p::l,l'=>by
  simp only[List.cons_append,iR,Yt (D+cnt Φ p.cells) l l',fM]
  rw[show D+cnt Φ p.cells+fM Φ l=D+(cnt Φ p.cells+fM Φ l) by omega]
theorem aEx: ∀(D:Nat) (l l':List Pa),deep Φ D (l++l')=deep Φ D l++deep Φ (D+fM Φ l) l'
 |D,[],l'=>rfl
 |D,p::l,l'=>by
  simp only[List.cons_append,deep,aEx (D+cnt Φ p.cells) l l',fM,List.append_assoc]
  rw[show D+cnt Φ p.cells+fM Φ l=D+(cnt Φ p.cells+fM Φ l) by omega]
theorem lY {f:Nat->Option Nat}: ∀(R R':Nat) (l:List Pa),(∀j,j<2*l.length->f (R+j)=some (R'+j))->(dA R l).map (AV.ren f)=dA R' l
 |R,R',[],_=>rfl
 | R,R',p::l,h=>by
  have h0:=h 0 (by simp)
  have h1:=h 1 (by simp;omega)
  simp only[Nat.add_zero] at h0
  have:=lY (R+2) (R'+2) l fun j hj=>by
   have:=h (2+j) (by simp only[List.length_cons];omega)
   rw[show R+2+j=R+(2+j) by omega,show R'+2+j=R'+(2+j) by omega];exact this
  simp only[dA,List.map_cons,AV.ren,h0,h1,this]
theorem wX {f:Nat->Option Nat}: ∀(D D':Nat) (l:List Pa),(∀j,j<fM Φ l->f (D+j)=some (D'+j))->(iR Φ D l).map (List.map (AV.ren f))=iR Φ D' l
 |D,D',[],_=>rfl
 | D,D',p::l,h=>by
  have h1:=tH (Φ:=Φ) D D' p.cells fun j hj=>h j (by simp only[fM];omega)
  have:=wX (D+cnt Φ p.cells) (D'+cnt Φ p.cells) l fun j hj=>by
   have:=h (cnt Φ p.cells+j) (by simp only[fM];omega)
   rw[show D+cnt Φ p.cells+j=D+(cnt Φ p.cells+j) by omega,show D'+cnt Φ p.cells+j=D'+(cnt Φ p.cells+j) by omega];exact this
  simp only[iR,List.map_cons,h1,nI,this]
theorem zS {f:Nat->Option Nat}: ∀(D D':Nat) (l:List Pa),(∀j,j<fM Φ l->f (D+j)=some (D'+j))->(deep Φ D l).map (List.map (AV.ren f))=deep Φ D' l
 |D,D',[],_=>rfl
 | D,D',p::l,h=>by
  have h1:=yK (Φ:=Φ) D D' p.cells fun j hj=>h j (by simp only[fM];omega)
  have:=zS (D+cnt Φ p.cells) (D'+cnt Φ p.cells) l fun j hj=>by
   have:=h (cnt Φ p.cells+j) (by simp only[fM];omega)
   rw[show D+cnt Φ p.cells+j=D+(cnt Φ p.cells+j) by omega,show D'+cnt Φ p.cells+j=D'+(cnt Φ p.cells+j) by omega];exact this
  simp only[deep,List.map_append,h1,this]
theorem Xb {n R:Nat} {l:List Pa}:(dA R l).map (AV.ren (up n))=dA (R+n) l:=lY R (R+n) l fun j _=>upk
theorem Bc {n K:Nat} {l:List Pa}:(iR Φ K l).map (List.map (AV.ren (up n)))=iR Φ (K+n) l:=wX K (K+n) l fun j _=>upk
theorem Ko {n K:Nat} {l:List Pa}:(deep Φ K l).map (List.map (AV.ren (up n)))=deep Φ (K+n) l:=zS K (K+n) l fun j _=>upk
theorem iF.app {n m:Nat} {a b:List (Nat×aH)} (h1:iF n m a) (h2:iF n m b):iF n m (a++b):=
 ⟨fun k hk=>by rw[bW,h1.lo k hk];exact h2.lo k hk,fun k hk=>by rw[bW,h1.hi k hk];exact h2.hi k hk⟩
theorem iF.wide {n m n' m':Nat} {a:List (Nat×aH)} (h:iF n m a) (h1:n'<=n) (h2:m<=m'):iF n' m' a:=⟨fun k hk=>h.lo k (by omega),fun k hk=>h.hi k (by omega)⟩
theorem aCd {n:Nat} {a:ByteArray} {b c:Int} {k o m s k2 o2 m2 s2:Nat}:AV.ren (up n) (.agg [.str a,.int .i64 b,.int .i64 c,.msl k o m s,.msl k2 o2 m2 s2])= .agg [.str a,.int .i64 b,.int .i64 c,.msl (k+n) o m s,.msl (k2+n) o2 m2 s2]:=rfl
theorem aPv (ps:List Pa) (hl0:0<ps.length) (hl:ps.length<=400) (hs: ∀p∈ps,p.goodU Φ) (h9:fM Φ ps<=900000):
    Own Tryz.prog gl 38 [.sl 5 (ps.map Pa.av) .none,.fn 39 [] []] (.msl 0 0 ps.length 5) ([(0,dA 1 ps)]++(dV 1 (iR Φ 1000 ps)++dV 1000 (deep Φ 1000 ps))) 1000000:=by
  (refine Own.intro 2 mix names (fn:=Tryz.f38) Tryz.func38 rfl fun F hF hro W=>?_;simp only[Tryz.ntmps38,Tryz.results38,aI,Nat.reduceAdd,Nat.reduceSub])
  repeat' (simp -implicitDefEqProofs (maxSteps:=9999999) (disch:=first|assumption|omega) only[aA,aC,facts,Nat.reduceAdd, *])
  refine jO (fD 22 [1,5,8,9,10]) 1000000 ps.length (fun i (_:Unit)=>⟨[.ud,.fn 39 [] [],.ud,.ud,.ud,iM 100 5 i,.ud,.ud,.sl 5 (ps.map Pa.av) .none,.int .i64 (ps.length:Nat),.int .i64 (i:Nat),.ud,.ud,.ud,.ud,.ud,.ud,.ud,.ud,.ud,.ud,.ud],[]⟩) (fun i _=>⟨hC (jE 100 (dA 101 (ps.take i)) i++(dV 101 (iR Φ 1000 (ps.take i))++dV 1000 (deep Φ 1000 (ps.take i)))),1000000⟩) (fun i _=>i<1000001) ⟨(),by omega,bJ 5 [],gK 5 [],dG.of_fit rfl rfl rfl,aG.nil,rfl,rfl⟩ ?_
  rintro i x hi hi2
  rcases Nat.lt_or_ge i ps.length with hlt|hge
  · have hv:=hs ps[i] (List.getElem_mem hlt)
    have hown:=aSr ps[i] hv
    rcases i with _|i
    · simp only[aX,aY,List.take_zero,deep,iR,dV,List.append_nil,aO]
      repeat' (first
    |simp -implicitDefEqProofs (maxSteps:=9999999) (disch:=first|assumption|omega) only[aA,aC,facts,if_pos,Nat.reduceAdd,Nat.reduceLT,Nat.reduceLeDiff,Int.reduceLE,Int.reduceAdd,gB,cO,List.flatMap_cons,List.flatMap_nil,AV.cells,true_or,AV.one,qW,wM,aCd,Xf,nP,aE8,eX,fH,aK,aO,nI,wrap_in,List.getElem?_eq_getElem,Pa.av,aV, *]
    |((with_reducible refine aF (fun _=>?_) (fun _=>?_))<;>try omega)
    | ((with_reducible refine aS 39 ?_);refine Ew hF hro hown (rfl) ?_))
      have hcn:=hv.n
      have hs3: ∀j,j<cnt Φ ps[0].cells->dR 5 [(1100009,100,1),(1000008,101,2),(1000010,1000,cnt Φ ps[0].cells)] (1000010+j)=some (1000+j):=fun j hj=>by
        simp only[dR,jF]
        rw[if_neg (by omega),if_neg (by omega),if_neg (by omega),if_pos (by omega)];exact congrArg some (by omega)
      have hs1:dR 5 [(1100009,100,1),(1000008,101,2),(1000010,1000,cnt Φ ps[0].cells)] 1000008=some 101:=by simp [dR,jF]
      have hs2:dR 5 [(1100009,100,1),(1000008,101,2),(1000010,1000,cnt Φ ps[0].cells)] 1000009=some 102:=by simp [dR,jF]
      refine dM 0 () hlt (by omega) (by omega) (dR 5 [(1100009,100,1),(1000008,101,2),(1000010,1000,cnt Φ ps[0].cells)]) (xF 5 [(1100009,100,1),(1000008,101,2),(1000010,1000,cnt Φ ps[0].cells)]) (dG.seg (by simp [nT];omega) (by omega) rfl) ?_ rfl rfl
      simp only[take_snoc hlt,List.take_zero,List.nil_append,bM,dA,iR,deep,dV,List.append_nil,List.cons_append,aK,Nat.reduceAdd]
      refine aG.cons 1100009 rfl rfl (by simp only[List.map_cons,List.map_nil,AV.ren,hs1,hs2]) (aG.cons 1000008 (by simp [hget]) hs1 (tH _ _ _ hs3) (aG.cons 1000009 (by simp [hget]) hs2 (nI _) (aG.famM (yK _ _ _ hs3) (fun j hj=>hs3 j (by rw[kH] at hj;exact hj)) fun j hj=>?_)))
      have hj2:=hj
      rw[kH] at hj2
      rw[bD (by omega),bD (by omega),bD (by omega),bD (by omega),bD (by omega)]
      exact iI hj
    · have hct:fM Φ (ps.take (i+1))<=fM Φ ps:=by
        conv=>rhs;rw[<-List.take_append_drop (i+1) ps,Nw]
        omega
      have hT:iF 101 1000000 (hC (dV 101 (iR Φ 1000 (ps.take (i+1))))++hC (dV 1000 (deep Φ 1000 (ps.take (i+1))))):=
        iF.app (iF.fam (by rw[iL,List.length_take];omega)) ((iF.fam (m:=1000000) (by rw[rG];omega)).wide (by omega) (Nat.le_refl _))
      have hfl:(dA 101 (ps.take (i+1))).length=(i+1)*5:=by rw[kR,List.length_take,Nat.min_eq_left (by omega)]
      have t1:=hT.lo
      have t2:=hT.hi
      have t3:=hT.dlo
      have t4:=hT.dhi
      simp only[dX,bM,List.cons_append,List.nil_append,aK,sU]
      generalize hZ:hC (dV 101 (iR Φ 1000 (ps.take (i+1))))++hC (dV 1000 (deep Φ 1000 (ps.take (i+1))))=Z at t1 t2 t3 t4 ⊢
      repeat' (first
    |simp -implicitDefEqProofs (maxSteps:=9999999) (disch:=first|assumption|omega) only[aA,aC,facts,if_pos,if_neg,Nat.reduceAdd,Nat.reduceEqDiff,Nat.reduceLT,Nat.reduceLeDiff,gB,cO,List.flatMap_cons,List.flatMap_nil,AV.cells,AV.one,qW,wM,aCd,Xf,nP,aE8,eX,fH,aK,aO,nI,wrap_in,List.getElem?_eq_getElem,Pa.av,aV, *]
    |((with_reducible refine aF (fun _=>?_) (fun _=>?_))<;>try omega)
    | ((with_reducible refine aS 39 ?_);refine Ew hF hro hown (rfl) ?_))
      have hcn:=hv.n
      have hmin:(ps.take (i+1)).length=i+1:=by rw[List.length_take];omega
      have hlr:(iR Φ 1000 (ps.take (i+1))).length=2*(i+1):=by rw[iL,hmin]
      have hld:(deep Φ 1000 (ps.take (i+1))).length=fM Φ (ps.take (i+1)):=rG _ _
      have hcl:fM Φ ps=fM Φ (ps.take (i+1))+cnt Φ ps[i+1].cells+fM Φ (ps.drop (i+2)):=by
        conv=>lhs;rw[<-List.take_append_drop (i+2) ps,Nw,take_snoc hlt,Nw]
        simp [fM]
      generalize hTT:fM Φ (ps.take (i+1))=T at hct hld hcl
      have hs1: ∀j,j<2*(i+1)->dR 5 [(1100009,100,1),(1000008,101+2*(i+1),2),(1000010,1000+T,cnt Φ ps[i+1].cells),(101,101,2*(i+1)),(1000,1000,T)] (101+j)=some (101+j):=fun j hj=>by
        simp only[dR,jF]
        rw[if_neg (by omega),if_neg (by omega),if_neg (by omega),if_neg (by omega),if_pos (by omega)];exact congrArg some (by omega)
      have hs2: ∀j,j<T->dR 5 [(1100009,100,1),(1000008,101+2*(i+1),2),(1000010,1000+T,cnt Φ ps[i+1].cells),(101,101,2*(i+1)),(1000,1000,T)] (1000+j)=some (1000+j):=fun j hj=>by
        simp only[dR,jF]
        rw[if_neg (by omega),if_neg (by omega),if_neg (by omega),if_neg (by omega),if_neg (by omega),if_pos (by omega)];exact congrArg some (by omega)
      have hs3: ∀j,j<cnt Φ ps[i+1].cells->dR 5 [(1100009,100,1),(1000008,101+2*(i+1),2),(1000010,1000+T,cnt Φ ps[i+1].cells),(101,101,2*(i+1)),(1000,1000,T)] (1000010+j)=some (1000+T+j):=fun j hj=>by
        simp only[dR,jF]
        rw[if_neg (by omega),if_neg (by omega),if_neg (by omega),if_pos (by omega)];exact congrArg some (by omega)
      have hs4:dR 5 [(1100009,100,1),(1000008,101+2*(i+1),2),(1000010,1000+T,cnt Φ ps[i+1].cells),(101,101,2*(i+1)),(1000,1000,T)] 1000008=some (101+2*(i+1)):=by simp [dR,jF]
      have hs5:dR 5 [(1100009,100,1),(1000008,101+2*(i+1),2),(1000010,1000+T,cnt Φ ps[i+1].cells),(101,101,2*(i+1)),(1000,1000,T)] 1000009=some (101+2*(i+1)+1):=by simp [dR,jF]
      refine dM (i+1) () hlt (by omega) (by omega) (dR 5 [(1100009,100,1),(1000008,101+2*(i+1),2),(1000010,1000+T,cnt Φ ps[i+1].cells),(101,101,2*(i+1)),(1000,1000,T)]) (xF 5 [(1100009,100,1),(1000008,101+2*(i+1),2),(1000010,1000+T,cnt Φ ps[i+1].cells),(101,101,2*(i+1)),(1000,1000,T)]) (dG.seg (by simp [nT];omega) (by omega) rfl) ?_ rfl rfl
      simp only[bM,take_snoc hlt,Rl,Yt,aEx,Hm,hlr,hld,hTT,hmin,List.cons_append,List.nil_append,aK,sU,dA,iR,deep,dV,List.append_nil,aO]
      refine aG.cons 1100009 rfl rfl ?_ (aG.app (aG.app (aG.famM (wX 1000 1000 _ (by rw[hTT];exact hs2)) (fun j hj=>hs1 j (by omega)) fun j hj=>?_) (aG.cons 1000008 (by simp [hget]) hs4 (tH _ _ _ hs3) (aG.cons 1000009 (by simp [hget]) hs5 (nI _) aG.nil)))
        (aG.app (aG.famM (zS 1000 1000 _ (by rw[hTT];exact hs2)) (fun j hj=>hs2 j (by omega)) fun j hj=>?_) (aG.famM (yK _ _ _ hs3) (fun j hj=>hs3 j (by rw[kH] at hj;exact hj)) fun j hj=>?_)))
      · rw[List.map_append,lY 101 101 _ (by rw[hmin];exact hs1)]
        simp only[List.map_cons,List.map_nil,AV.ren,hs4,hs5]
      · have hj2:=hj
        rw[hlr] at hj2
        rw[bD (by omega),bD (by omega),bD (by omega),bD (by omega),bD (by omega),rH (by omega),bW,<-hZ,bW,iI hj]
      · have hj2:=hj
        rw[hld] at hj2
        rw[bD (by omega),bD (by omega),bD (by omega),bD (by omega),bD (by omega),rH (by omega),bW,<-hZ,bW,uN (by omega),iI hj]
      · have hj2:=hj
        rw[kH] at hj2
        rw[bD (by omega),bD (by omega),bD (by omega),bD (by omega),bD (by omega),rH (by omega),bW,t2 _ (by omega)]
        exact iI hj
  · have:i=ps.length:=by omega
    subst this
    obtain⟨n,hn⟩: ∃n,ps.length=n+1:=⟨ps.length - 1,by omega⟩
    repeat' (first
    |simp -implicitDefEqProofs (maxSteps:=9999999) (disch:=first|assumption|omega) only[aA,aC,facts,Nat.reduceAdd,aV, *]
    |((with_reducible refine aF (fun _=>?_) (fun _=>?_))<;>try omega))
    have htk:List.take (n+1) ps=ps:=by rw[<-hn,List.take_length]
    rw[htk]
    have hs1: ∀j,j<2*ps.length->dR 0 [(100,0,1),(101,1,2*ps.length),(1000,1000,fM Φ ps)] (101+j)=some (1+j):=fun j hj=>by
      simp only[dR,jF]
      rw[if_neg (by omega),if_neg (by omega),if_pos (by omega)];exact congrArg some (by omega)
    have hs2: ∀j,j<fM Φ ps->dR 0 [(100,0,1),(101,1,2*ps.length),(1000,1000,fM Φ ps)] (1000+j)=some (1000+j):=fun j hj=>by
      simp only[dR,jF]
      rw[if_neg (by omega),if_neg (by omega),if_neg (by omega),if_pos (by omega)];exact congrArg some (by omega)
    refine uM.seg [(100,0,1),(101,1,2*ps.length),(1000,1000,fM Φ ps)] (by simp [nT];omega) ?_ (by simp [iM,AV.ren,dR,jF])
    simp only[bM,List.cons_append,List.nil_append,aK,sU]
    refine aG.cons 100 rfl rfl (lY 101 1 ps hs1) (aG.app (aG.famM (wX 1000 1000 ps hs2) (fun j hj=>hs1 j (by rw[iL] at hj;exact hj)) fun j hj=>?_) (aG.famM (zS 1000 1000 ps hs2) (fun j hj=>hs2 j (by rw[rG] at hj;exact hj)) fun j hj=>?_))
    · rw[bD (by omega),bW,iI hj]
    · rw[bD (by omega),bW,uN (by rw[iL];omega),iI hj]
end Go.Proofs.Pv
namespace Go.Proofs.Pv
open Go Go.Proofs
variable {Φ:nX}
structure Sc.goodU (Φ:nX) (s:Sc):Prop where
 lo:0<s.parts.length
 hi:s.parts.length<=400
 pa: ∀p∈s.parts,p.goodU Φ
 n:fM Φ s.parts<=900000
 b0:0<s.bars.length
 bh:s.bars.length<=1000000
 ba: ∀b∈s.bars,b.short
def scC (s:Sc):List (Nat×List AV):=[(0,dA 2 s.parts),(1,s.bars.flatMap Ba.cells)]
def Zi (Φ:nX) (s:Sc):List (Nat×List AV):=dV 2 (iR Φ 1000 s.parts)++dV 1000 (deep Φ 1000 s.parts)
theorem aIe (s:Sc) (h:s.goodU Φ):Own Tryz.prog gl 16 [s.av] (.agg [.str s.title,.msl 1 0 s.bars.length 14,.msl 0 0 s.parts.length 5]) (scC s++Zi Φ s) 2000000:=by
 have h1:=h.hi
 have h2:=h.n
 have hown:=aPv s.parts h.lo h.hi h.pa h.n
 have hba:=Pz s.bars h.bh h.ba
 obtain⟨n,hn⟩: ∃n,s.bars.length=n+1:=⟨s.bars.length - 1,by have:=h.b0;omega⟩
 rw[hn] at hba
 simp only[dX,bM] at hba
 rw[scC,Zi]
 (refine Own.intro 2 mix names (fn:=Tryz.f16) Tryz.func16 rfl fun F hF hro W=>?_;simp only[Tryz.ntmps16,Tryz.results16,aI,Nat.reduceAdd,Nat.reduceSub])
 repeat' (first
  |simp -implicitDefEqProofs (maxSteps:=9999999) only[↓reduceIte,aA,aC,facts,Nat.reduceAdd,Nat.reduceEqDiff,Nat.reduceLeDiff,AV.cells,AV.one,Sc.av,mM,Xb,Eu,sU,nP,Bc,Ko,eX,fH,aK,aO,nJ, *]
  |((with_reducible refine aS 38 ?_);refine Ew hF hro hown (rfl) ?_)
  |((with_reducible refine aS 37 ?_);refine vG hF hro hba (rfl) ?_))
 have hs1: ∀j,j<2*s.parts.length->dR 0 [(9,0,1),(4,1,1),(10,2,2*s.parts.length),(1009,1000,fM Φ s.parts)] (10+j)=some (2+j):=fun j hj=>by
  simp only[dR,jF]
  rw[if_neg (by omega),if_neg (by omega),if_neg (by omega),if_pos (by omega)];exact congrArg some (by omega)
 have hs2: ∀j,j<fM Φ s.parts->dR 0 [(9,0,1),(4,1,1),(10,2,2*s.parts.length),(1009,1000,fM Φ s.parts)] (1009+j)=some (1000+j):=fun j hj=>by
  simp only[dR,jF]
  rw[if_neg (by omega),if_neg (by omega),if_neg (by omega),if_neg (by omega),if_pos (by omega)];exact congrArg some (by omega)
 refine uM.seg [(9,0,1),(4,1,1),(10,2,2*s.parts.length),(1009,1000,fM Φ s.parts)] (by simp [nT];omega) ?_ (by simp [AV.ren,AV.renL_eq,dR,jF])
 simp only[List.cons_append,List.nil_append,aK,sU]
 refine aG.cons 9 rfl rfl (lY 10 2 _ hs1) (aG.cons 4 rfl rfl (nJ _) (aG.app (aG.famM (wX 1009 1000 _ hs2) (fun j hj=>hs1 j (by rw[iL] at hj;exact hj)) fun j hj=>?_) (aG.famM (zS 1009 1000 _ hs2) (fun j hj=>hs2 j (by rw[rG] at hj;exact hj)) fun j hj=>?_)))
 ·rw[bD (by omega),bD (by omega),bD (by omega),bD (by omega),bW,iI hj]
 ·rw[bD (by omega),bD (by omega),bD (by omega),bD (by omega),bW,uN (by rw[iL];omega),iI hj]
end Go.Proofs.Pv
