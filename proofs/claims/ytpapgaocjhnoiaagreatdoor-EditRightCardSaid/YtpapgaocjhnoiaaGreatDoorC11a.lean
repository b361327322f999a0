/-
  Layer 9's edits: copies of cells of which all lists stay open.
  Layer 9's edits: copies of a part's cells whose lists stay open, by what of a cell stays open.
  Layer 9's edits: copies of parts and scores of which all lists stay open.
  Layer 9's edits: a copied score of which all lists stay open.
  Conditions: none but those that each statement names.
-/
import Derived.Test.YtpapgaocjhnoiaaGreatDoorC09e
import Derived.Test.YtpapgaocjhnoiaaGreatDoorD08
import Derived.Test.YtpapgaocjhnoiaaGreatDoorC10a
set_option linter.unusedVariables false
set_option linter.unusedSimpArgs false
namespace Go.Proofs.Pv
open Go Go.Proofs
def kT:Nat→List Vo→List AV
 |_,[]=>[]
 |K,v::r=> .msl K 0 v.l.length 9::kT (K+1) r
def wF (v:Vo):List AV:=v.l.flatMap Ev.cells
theorem aCi: ∀(K:Nat) (l l':List Vo),kT K (l++l')=kT K l++kT (K+l.length) l'
 |K,[],l'=>rfl
 |K,v::l,l'=>by
  simp only[List.cons_append,kT,aCi (K+1) l l',List.length_cons]
  rw[show K+1+l.length=K+(l.length+1) by omega]
theorem Rn: ∀(K:Nat) (l:List Vo),(kT K l).length=l.length
 |K,[]=>rfl
 |K,v::l=>by simp only[kT,List.length_cons,Rn (K+1) l]
theorem Ic {f:Nat→Option Nat}: ∀(K K':Nat) (l:List Vo),(∀j,j<l.length→f (K+j)=some (K'+j))→(kT K l).map (AV.ren f)=kT K' l
 |K,K',[],_=>rfl
 | K,K',v::l,h=>by
  have h0:=h 0 (by simp)
  simp only[Nat.add_zero] at h0
  have:=Ic (K+1) (K'+1) l fun j hj=>by
   have:=h (j+1) (by simp only[List.length_cons];omega)
   rw[show K+1+j=K+(j+1) by omega,show K'+1+j=K'+(j+1) by omega];exact this
  simp only[kT,List.map_cons,AV.ren,h0,this]
theorem aA8 {f:Nat→Option Nat} (v:Vo):(wF v).map (AV.ren f)=wF v:=fO v.l
theorem aPw {f:Nat→Option Nat} (l:List Vo):(l.map wF).map (List.map (AV.ren f))=l.map wF:=by
 induction l with
 |nil=>rfl
 |cons v l ih=>simp only[List.map_cons,aA8,ih]
theorem take_snoc {α:Type} {l:List α} {i:Nat} (h:i<l.length):l.take (i+1)=l.take i++[l[i]]:=List.take_succ_eq_append_getElem h
set_option maxRecDepth 100000 in
theorem aNb (c:List Vo) (h:wH c) (h9:c.length≤800):Own Tryz.prog gl 41 [bW c] (.msl 0 0 c.length 1) ((0,kT 1 c)::dS 1 (c.map wF)) 1000:=by
  have hl:=h.hi
  unfold bW
  (refine Own.intro 2 mix names (fn:=Tryz.f41) Tryz.func41 rfl fun F hF hro W=>?_;simp -implicitDefEqProofs only[Tryz.ntmps41,Tryz.results41,aI,Nat.reduceAdd,Nat.reduceSub])
  repeat' (simp -implicitDefEqProofs (maxSteps:=9999999) (disch:=first|assumption|omega) only[aB,aC,facts,Nat.reduceAdd, *])
  refine jY (jQ 21 [3,6,7,8]) 1000 c.length (fun i (_:Unit)=>⟨[.ud,.ud,.ud,iR 100 1 i,.ud,.ud,.sl 1 (c.map Vo.av) .none,.int .i64 (c.length:Nat),.int .i64 (i:Nat),.ud,.ud,.ud,.ud,.ud,.ud,.ud,.ud,.ud,.ud,.ud,.ud],[]⟩) (fun i _=>⟨hC (jF 100 (kT 101 (c.take i)) i++dS 101 ((c.take i).map wF)),1000⟩) (fun i _=>i<1000001) ⟨(),by omega,bI 5 [],gK 5 [],dF.of_fit rfl rfl rfl,aF.nil,rfl,rfl⟩ ?_
  rintro i x hi hi2
  rcases Nat.lt_or_ge i c.length with hlt|hge
  · have hv:=h.vo c[i] (List.getElem_mem hlt)
    obtain⟨n,hn⟩: ∃n,c[i].l.length=n+1:=⟨c[i].l.length - 1,by have:=hv.lo;omega⟩
    have hown:=pW c[i].l hv.hi hv.ev
    rw[hn] at hown
    simp only[eH,bM] at hown
    rcases i with _|i
    · simp only[aU,aV,List.take_zero,List.map_nil,dS,List.append_nil,aN]
      repeat' (first
    |simp -implicitDefEqProofs (maxSteps:=9999999) (disch:=first|assumption|omega) only[aB,aC,facts,if_pos,Nat.reduceAdd,Nat.reduceLT,Nat.reduceLeDiff,Int.reduceLE,Int.reduceAdd,fZ,dB,List.flatMap_cons,List.flatMap_nil,AV.cells,true_or,AV.one,qN,wJ,mW,eU,fC,aJ,aN,fO,wrap_in,List.getElem?_eq_getElem,Vo.av,aX, *]
    |((with_reducible refine aH (fun _=>?_) (fun _=>?_))<;>try omega)
    | ((with_reducible refine aT 49 ?_);refine uY hF hro hown (rfl) ?_))
      refine dM 0 () hlt (by omega) (by omega) (dP 5 [(1011,100,1),(1008,101,1)]) (zF 5 [(1011,100,1),(1008,101,1)]) (dF.seg (by simp [oO]) (by omega) rfl) ?_ rfl rfl
      simp only[take_snoc hlt,List.take_zero,List.nil_append,List.map_cons,List.map_nil,bM,dS,kT,List.cons_append,aJ,aN]
      exact aF.cons 1011 rfl rfl (by simp [AV.ren,dP,jK,hn]) (aF.cons 1008 rfl rfl (fO _) aF.nil)
    · have hT:iC 101 1000 (hC (dS 101 ((c.take (i+1)).map wF))):=iC.fam (by rw[List.length_map,List.length_take];omega)
      have hfl:(kT 101 (c.take (i+1))).length=i+1:=by rw[Rn,List.length_take];omega
      have t1:=hT.lo
      have t2:=hT.hi
      have t3:=hT.dlo
      have t4:=hT.dhi
      simp only[eH,bM,List.cons_append,List.nil_append,aJ]
      generalize hZ:hC (dS 101 ((c.take (i+1)).map wF))=Z at t1 t2 t3 t4 ⊢
      repeat' (first
    |simp -implicitDefEqProofs (maxSteps:=9999999) (disch:=first|assumption|omega) only[aB,aC,facts,if_pos,if_neg,Nat.reduceAdd,Nat.reduceEqDiff,Nat.reduceLT,Nat.reduceLeDiff,fZ,dB,List.flatMap_cons,List.flatMap_nil,AV.cells,AV.one,qN,wJ,mW,eU,fC,aJ,aN,fO,wrap_in,List.getElem?_eq_getElem,Vo.av,aX, *]
    |((with_reducible refine aH (fun _=>?_) (fun _=>?_))<;>try omega)
    | ((with_reducible refine aT 49 ?_);refine uY hF hro hown (rfl) ?_))
      refine dM (i+1) () hlt (by omega) (by omega) (dP 5 [(1011,100,1),(1008,101+(i+1),1),(101,101,i+1)]) (zF 5 [(1011,100,1),(1008,101+(i+1),1),(101,101,i+1)]) (dF.seg (by simp [oO];omega) (by omega) rfl) ?_ rfl rfl
      have hmin:min (i+1) c.length=i+1:=by omega
      have hs: ∀j,j<i+1→dP 5 [(1011,100,1),(1008,101+(i+1),1),(101,101,i+1)] (101+j)=some (101+j):=fun j hj=>by
        simp only[dP,jK]
        rw[if_neg (by omega),if_neg (by omega),if_neg (by omega),if_pos (by omega)];congr 1;omega
      simp only[bM,take_snoc hlt,aCi,List.map_append,Hl,List.map_cons,List.map_nil,List.length_map,List.length_take,hmin,List.cons_append,List.nil_append,aJ,sJ,kT,dS,aN]
      refine aF.cons 1011 rfl rfl ?_ (aF.app (aF.fam (K:=101) (l:=(c.take (i+1)).map wF) rfl fun j h1 h2=>?_) (aF.cons 1008 rfl rfl (fO _) aF.nil))
      · rw[List.map_append,Ic 101 101 _ fun j hj=>hs j (by rw[List.length_take] at hj;omega)]
        simp [AV.ren,dP,jK,hn]
      · rw[List.length_map,List.length_take] at h1
        refine⟨hs j (by omega),?_,by rw[List.getElem_map];exact aA8 _⟩
        rw[aW (by omega),aW (by omega),aW (by omega),aW (by omega),qZ (by omega),←hZ]
        exact iF h2
  · have:i=c.length:=by omega
    subst this
    obtain⟨n,hn⟩: ∃n,c.length=n+1:=⟨c.length - 1,by have:=h.lo;omega⟩
    repeat' (first
    |simp -implicitDefEqProofs (maxSteps:=9999999) (disch:=first|assumption|omega) only[aB,aC,facts,Nat.reduceAdd,aX, *]
    |((with_reducible refine aH (fun _=>?_) (fun _=>?_))<;>try omega))
    have htk:List.take (n+1) c=c:=by rw[←hn,List.take_length]
    rw[htk]
    have hs: ∀j,j<c.length→dP 0 [(100,0,1),(101,1,c.length)] (101+j)=some (1+j):=fun j hj=>by
      simp only[dP,jK]
      rw[if_neg (by omega),if_neg (by omega),if_pos (by omega)];congr 1;omega
    refine uI.seg [(100,0,1),(101,1,c.length)] (by simp [oO];omega) ?_ (by simp [iR,AV.ren,dP,jK])
    simp only[bM,List.cons_append,List.nil_append,aJ]
    refine aF.cons 100 rfl rfl (Ic 101 1 c hs) (aF.fam (K:=101) (l:=c.map wF) rfl fun j h1 h2=>⟨hs j (by simpa using h1),?_,by rw[List.getElem_map];exact aA8 _⟩)
    rw[aW (by omega)]
    exact iF h2
end Go.Proofs.Pv
namespace Go.Proofs.Pv
open Go Go.Proofs
set_option maxRecDepth 100000
def wY (k:Nat):Bool:=decide (1000≤k)
def jC (hp:Hp) (K:Nat) (l:List (List AV)):Prop:= ∀q (h:q<l.length),hp (K+q)=some (.cells l[q])
theorem jC.head {hp:Hp} {K:Nat} {x:List AV} {l:List (List AV)} (h:jC hp K (x::l)):hp K=some (.cells x):=by
 have:=h 0 (by simp)
 simpa using this
theorem jC.tail {hp:Hp} {K:Nat} {x:List AV} {l:List (List AV)} (h:jC hp K (x::l)):jC hp (K+1) l:=fun q hq=>by
 have:=h (q+1) (by simp only[List.length_cons];omega)
 rw[show K+(q+1)=K+1+q by omega] at this
 simpa using this
theorem jC.left {hp:Hp} {K:Nat} {a b:List (List AV)} (h:jC hp K (a++b)):jC hp K a:=fun q hq=>by
 have:=h q (by rw[List.length_append];omega)
 rwa [List.getElem_append_left hq] at this
theorem jC.right {hp:Hp} {K:Nat} {a b:List (List AV)} (h:jC hp K (a++b)):jC hp (K+a.length) b:=fun q hq=>by
 have:=h (a.length+q) (by rw[List.length_append];omega)
 rw[List.getElem_append_right (by omega),show K+(a.length+q)=K+a.length+q by omega] at this
 simpa using this
theorem jC.mono {hp hp':Hp} {K:Nat} {l:List (List AV)} (h:jC hp K l) (hm: ∀k,K≤k→k<K+l.length→hp' k=hp k):jC hp' K l:=fun q hq=>by rw[hm _ (by omega) (by omega)];exact h q hq
theorem jC.fam {K:Nat} {l:List (List AV)}:jC (hget (hC (dS K l))) K l:=fun q hq=>iF hq
theorem aCs {hp:Hp} {d:Nat}: ∀(K:Nat) (c:List Vo),jC hp K (c.map wF)→(kT K c).map (AV.nowS wY hp (d+1))=c.map fun v=> .sl 9 (v.l.map Ev.av) .none
 |K,[],_=>rfl
 |K,v::c,h=>by
  simp only[List.map_cons] at h
  simp only[kT,List.map_cons,aCs (K+1) c h.tail]
  rw[aIx v.l rfl h.head]
theorem Om {hp:Hp} {d k n:Nat} (c:List Vo) {E:List AV} (hk:hp k=some (.cells E)) (h1:1000≤k) (hE:E.map (AV.nowS wY hp d)=c.map fun v=> .sl 9 (v.l.map Ev.av) .none) (hn:n=c.length):AV.nowS wY hp (d+1) (.msl k 0 n 1)=bW c:=by
 subst hn
 have hlen:E.length=c.length:=by have:=congrArg List.length hE;simpa using this
 refine(pU hk (by decide) (hE.trans (mZ (c:=fun v:Vo=>AV.sl 9 (v.l.map Ev.av) .none) c).symm) (by omega) (lC (fun _=>rfl) c)).trans ?_
 rw[show wY k=true from decide_eq_true h1,Bool.or_true,lM (c:=fun v:Vo=>[AV.sl 9 (v.l.map Ev.av) .none]) (k:=1) (fun _=>rfl) c]
 rfl
structure CF where
 sz:List Vo→Nat
 blk:Nat→List Vo→List (List AV)
 cell:Nat→List Vo→AV
 len: ∀K c,(blk K c).length=sz c
 ren: ∀(f:Nat→Option Nat) (K K':Nat) (c:List Vo),(∀j,j<sz c→f (K+j)=some (K'+j))→(blk K c).map (List.map (AV.ren f))=blk K' c
 cren: ∀(f:Nat→Option Nat) (K K':Nat) (c:List Vo),(∀j,j<sz c→f (K+j)=some (K'+j))→AV.ren f (cell K c)=cell K' c
 now: ∀(hp:Hp) (d K:Nat) (c:List Vo),jC hp K (blk K c)→1000≤K→AV.nowS wY hp (d+2) (cell K c)=bW c
theorem aFl {f:Nat→Option Nat} {K K' n m:Nat} (hm:1≤m) (h: ∀j,j<m→f (K+j)=some (K'+j)):AV.ren f (.msl K 0 n 1)= .msl K' 0 n 1:=by
 have h0:=h 0 (by omega)
 simp only[Nat.add_zero] at h0
 simp only[AV.ren,h0]
def Zf:CF where
 sz c:=1+c.length
 blk K c:=kT (K+1) c::c.map wF
 cell K c:= .msl K 0 c.length 1
 len K c:=by simp only[List.length_cons,List.length_map];omega
 ren f K K' c h:=by
  have:=Ic (f:=f) (K+1) (K'+1) c fun j hj=>by
   have:=h (1+j) (by omega)
   rw[show K+1+j=K+(1+j) by omega,show K'+1+j=K'+(1+j) by omega];exact this
  rw[List.map_cons,this,aPw]
 cren f K K' c h:=aFl (by omega) h
 now hp d K c h hK:=Om c h.head hK (aCs (K+1) c h.tail) rfl
theorem xW (c:List Vo):(c.flatMap eQ).length=c.length:=by rw[flat_length (k:=1) (fun _=>rfl),Nat.mul_one]
def aRc:CF where
 sz c:=1
 blk K c:=[c.flatMap eQ]
 cell K c:= .msl K 0 c.length 1
 len K c:=rfl
 ren f K K' c h:=by rw[List.map_cons,List.map_nil,kM (c:=eQ) (fun _=>rfl)]
 cren f K K' c h:=aFl (by omega) h
 now hp d K c h hK:=by
  refine Om c h.head hK ?_ rfl
  rw[lN (c:=eQ) (fun _=>rfl)]
  exact mZ (c:=fun v:Vo=>AV.sl 9 (v.l.map Ev.av) .none) c
def Zg:CF where
 sz c:=0
 blk K c:=[]
 cell K c:=bW c
 len K c:=rfl
 ren f K K' c h:=rfl
 cren f K K' c h:=rfl
 now hp d K c h hK:=rfl
def cnt (Φ:CF):List (List Vo)→Nat
 |[]=>0
 |c::r=>Φ.sz c+cnt Φ r
def dZ (Φ:CF):Nat→List (List Vo)→List AV
 |_,[]=>[]
 |K,c::r=>Φ.cell K c::dZ Φ (K+Φ.sz c) r
def csB (Φ:CF):Nat→List (List Vo)→List (List AV)
 |_,[]=>[]
 |K,c::r=>Φ.blk K c++csB Φ (K+Φ.sz c) r
section
variable {Φ:CF}
theorem Ep: ∀l l':List (List Vo),cnt Φ (l++l')=cnt Φ l+cnt Φ l'
 |[],l'=>by simp [cnt]
 |c::l,l'=>by simp only[List.cons_append,cnt,Ep l l'];omega
theorem aQe (l:List (List Vo)) (i:Nat):cnt Φ (l.take i)≤cnt Φ l:=by
 conv=>rhs;rw[←List.take_append_drop i l,Ep]
 omega
theorem jZ: ∀(K:Nat) (l:List (List Vo)),(csB Φ K l).length=cnt Φ l
 |K,[]=>rfl
 |K,c::l=>by simp only[csB,cnt,List.length_append,Φ.len,jZ (K+Φ.sz c) l]
theorem sV: ∀(K:Nat) (l:List (List Vo)),(dZ Φ K l).length=l.length
 |K,[]=>rfl
 |K,c::l=>by simp only[dZ,List.length_cons,sV (K+Φ.sz c) l]
theorem Ry: ∀(K:Nat) (l l':List (List Vo)),dZ Φ K (l++l')=dZ Φ K l++dZ Φ (K+cnt Φ l) l'
 |K,[],l'=>rfl
 |K,c::l,l'=>by
  simp only[List.cons_append,dZ,Ry (K+Φ.sz c) l l',cnt]
  rw[Nat.add_assoc]
theorem aBf: ∀(K:Nat) (l l':List (List Vo)),csB Φ K (l++l')=csB Φ K l++csB Φ (K+cnt Φ l) l'
 |K,[],l'=>rfl
 |K,c::l,l'=>by
  simp only[List.cons_append,csB,aBf (K+Φ.sz c) l l',cnt,List.append_assoc]
  rw[Nat.add_assoc]
theorem sW {f:Nat→Option Nat}: ∀(K K':Nat) (l:List (List Vo)),(∀j,j<cnt Φ l→f (K+j)=some (K'+j))→(dZ Φ K l).map (AV.ren f)=dZ Φ K' l
 |K,K',[],_=>rfl
 | K,K',c::l,h=>by
  have h0:=Φ.cren f K K' c fun j hj=>h j (by simp only[cnt];omega)
  have:=sW (K+Φ.sz c) (K'+Φ.sz c) l fun j hj=>by
   rw[Nat.add_assoc,Nat.add_assoc];exact h (Φ.sz c+j) (by simp only[cnt];omega)
  simp only[dZ,List.map_cons,h0,this]
theorem yH {f:Nat→Option Nat}: ∀(K K':Nat) (l:List (List Vo)),(∀j,j<cnt Φ l→f (K+j)=some (K'+j))→(csB Φ K l).map (List.map (AV.ren f))=csB Φ K' l
 |K,K',[],_=>rfl
 | K,K',c::l,h=>by
  have h1:=Φ.ren f K K' c fun j hj=>h j (by simp only[cnt];omega)
  have:=yH (K+Φ.sz c) (K'+Φ.sz c) l fun j hj=>by
   rw[Nat.add_assoc,Nat.add_assoc];exact h (Φ.sz c+j) (by simp only[cnt];omega)
  simp only[csB,List.map_append,h1,this]
theorem upk {n K j:Nat}:up n (K+j)=some (K+n+j):=by show some _=some _;congr 1;omega
theorem aNu {n K:Nat} {c:List Vo}:(Φ.blk K c).map (List.map (AV.ren (up n)))=Φ.blk (K+n) c:=Φ.ren _ K (K+n) c fun j _=>upk
theorem Xl {n K:Nat} {l:List (List Vo)}:(dZ Φ K l).map (AV.ren (up n))=dZ Φ (K+n) l:=sW K (K+n) l fun j _=>upk
theorem aFm {n K:Nat} {l:List (List Vo)}:(csB Φ K l).map (List.map (AV.ren (up n)))=csB Φ (K+n) l:=yH K (K+n) l fun j _=>upk
theorem yI {hp:Hp} {d:Nat}: ∀(K:Nat) (cs:List (List Vo)),1000≤K→jC hp K (csB Φ K cs)→(dZ Φ K cs).map (AV.nowS wY hp (d+2))=cs.map bW
 |K,[],_,_=>rfl
 |K,c::cs,hK,h=>by
  simp only[csB] at h
  have h3:=h.right
  rw[Φ.len] at h3
  simp only[dZ,List.map_cons,yI (K+Φ.sz c) cs (by omega) h3,Φ.now hp d K c h.left hK]
end
theorem aFn (Φ:CF) (hcm: ∀K c,Φ.cell K c= .msl K 0 c.length 1) (pos: ∀c,1≤Φ.sz c) (top: ∀c,c.length≤800→Φ.sz c≤900) (own: ∀c,wH c→c.length≤800→Own Tryz.prog gl 41 [bW c] (.msl 0 0 c.length 1) ([]++dS 0 (Φ.blk 0 c)) 1000) (cs:List (List Vo)) (h0:0<cs.length) (hl:cs.length≤1000000) (hs: ∀c∈cs,wH c∧c.length≤800) (h9:cnt Φ cs≤90000):
    Own Tryz.prog gl 40 [.sl 1 (cs.map bW) .none,.fn 41 [] []] (.msl 0 0 cs.length 1) ([(0,dZ Φ 1 cs)]++dS 1 (csB Φ 1 cs)) 100000:=by
  (refine Own.intro 2 mix names (fn:=Tryz.f40) Tryz.func40 rfl fun F hF hro W=>?_;simp -implicitDefEqProofs only[Tryz.ntmps40,Tryz.results40,aI,Nat.reduceAdd,Nat.reduceSub])
  repeat' (simp -implicitDefEqProofs (maxSteps:=9999999) (disch:=first|assumption|omega) only[aB,aC,facts,Nat.reduceAdd, *])
  refine jY (jQ 22 [1,5,8,9,10]) 100000 cs.length (fun i (_:Unit)=>⟨[.ud,.fn 41 [] [],.ud,.ud,.ud,iR 100 1 i,.ud,.ud,.sl 1 (cs.map bW) .none,.int .i64 (cs.length:Nat),.int .i64 (i:Nat),.ud,.ud,.ud,.ud,.ud,.ud,.ud,.ud,.ud,.ud,.ud],[]⟩) (fun i _=>⟨hC (jF 100 (dZ Φ 101 (cs.take i)) i++dS 101 (csB Φ 101 (cs.take i))),100000⟩) (fun i _=>i<1000001) ⟨(),by omega,bI 5 [],gK 5 [],dF.of_fit rfl rfl rfl,aF.nil,rfl,rfl⟩ ?_
  rintro i x hi hi2
  rcases Nat.lt_or_ge i cs.length with hlt|hge
  · have hv:=hs cs[i] (List.getElem_mem hlt)
    have hown:=own cs[i] hv.1 hv.2
    have hsz:=pos cs[i]
    have hst:=top cs[i] hv.2
    have hcl:cnt Φ cs=cnt Φ (cs.take i)+Φ.sz cs[i]+cnt Φ (cs.drop (i+1)):=by
      conv=>lhs;rw[←List.take_append_drop (i+1) cs,Ep,take_snoc hlt,Ep]
      simp [cnt]
    rcases i with _|i
    · simp only[aU,aV,List.take_zero,csB,dS,List.append_nil,aN]
      repeat' (first
    |simp -implicitDefEqProofs (maxSteps:=9999999) (disch:=first|assumption|omega) only[aB,aC,facts,if_pos,Nat.reduceAdd,Nat.reduceLT,Nat.reduceLeDiff,Int.reduceLE,Int.reduceAdd,fZ,dB,List.flatMap_cons,List.flatMap_nil,AV.cells,true_or,AV.one,Ip,Iq,mW,nC,aNu,fC,aN,wrap_in,List.getElem?_eq_getElem,bW,aX, *]
    |((with_reducible refine aH (fun _=>?_) (fun _=>?_))<;>try omega)
    | ((with_reducible refine aT 41 ?_);refine Et hF hro hown (rfl) ?_))
      have hs2: ∀j,j<Φ.sz cs[0]→dP 5 [(101008,100,1),(100007,101,Φ.sz cs[0])] (100007+j)=some (101+j):=fun j hj=>by
        simp only[dP,jK]
        rw[if_neg (by omega),if_neg (by omega),if_pos (by omega)];exact congrArg some (by omega)
      have hs0:dP 5 [(101008,100,1),(100007,101,Φ.sz cs[0])] 100007=some 101:=by
        have:=hs2 0 (by omega)
        simpa using this
      refine dM 0 () hlt (by omega) (by omega) (dP 5 [(101008,100,1),(100007,101,Φ.sz cs[0])]) (zF 5 [(101008,100,1),(100007,101,Φ.sz cs[0])]) (dF.seg (by simp [oO];omega) (by omega) rfl) ?_ rfl rfl
      simp only[take_snoc hlt,List.take_zero,List.nil_append,bM,dZ,hcm,csB,List.append_nil,List.cons_append,aJ]
      refine aF.cons 101008 rfl rfl (by simp only[List.map_cons,List.map_nil,AV.ren,hs0]) (aF.famM (Φ.ren _ _ _ _ hs2) (fun j hj=>hs2 j (by rw[Φ.len] at hj;exact hj)) fun j hj=>?_)
      have hj2:=hj
      rw[Φ.len] at hj2
      repeat rw[aW (by omega)]
      exact iF hj
    · have hT:iC 101 100000 (hC (dS 101 (csB Φ 101 (cs.take (i+1))))):=iC.fam (by rw[jZ];omega)
      have hfl:(dZ Φ 101 (cs.take (i+1))).length=i+1:=by rw[sV,List.length_take];omega
      have t1:=hT.lo
      have t2:=hT.hi
      have t3:=hT.dlo
      have t4:=hT.dhi
      simp only[eH,bM,List.cons_append,List.nil_append,aJ]
      generalize hZ:hC (dS 101 (csB Φ 101 (cs.take (i+1))))=Z at t1 t2 t3 t4 ⊢
      repeat' (first
    |simp -implicitDefEqProofs (maxSteps:=9999999) (disch:=first|assumption|omega) only[aB,aC,facts,if_pos,Nat.reduceAdd,Nat.reduceEqDiff,Nat.reduceLT,Nat.reduceLeDiff,fZ,dB,List.flatMap_cons,List.flatMap_nil,AV.cells,AV.one,Ip,Iq,mW,nC,aNu,fC,aN,wrap_in,List.getElem?_eq_getElem,bW,aX, *]
    |((with_reducible refine aH (fun _=>?_) (fun _=>?_))<;>try omega)
    | ((with_reducible refine aT 41 ?_);refine Et hF hro hown (rfl) ?_))
      have hlc:(csB Φ 101 (cs.take (i+1))).length=cnt Φ (cs.take (i+1)):=jZ _ _
      generalize hTT:cnt Φ (cs.take (i+1))=T at hcl hlc
      have hs1: ∀j,j<T→dP 5 [(101008,100,1),(100007,101+T,Φ.sz cs[i+1]),(101,101,T)] (101+j)=some (101+j):=fun j hj=>by
        simp only[dP,jK]
        rw[if_neg (by omega),if_neg (by omega),if_neg (by omega),if_pos (by omega)];exact congrArg some (by omega)
      have hs2: ∀j,j<Φ.sz cs[i+1]→dP 5 [(101008,100,1),(100007,101+T,Φ.sz cs[i+1]),(101,101,T)] (100007+j)=some (101+T+j):=fun j hj=>by
        simp only[dP,jK]
        rw[if_neg (by omega),if_neg (by omega),if_pos (by omega)];exact congrArg some (by omega)
      have hs0:dP 5 [(101008,100,1),(100007,101+T,Φ.sz cs[i+1]),(101,101,T)] 100007=some (101+T):=by
        have:=hs2 0 (by omega)
        simpa using this
      refine dM (i+1) () hlt (by omega) (by omega) (dP 5 [(101008,100,1),(100007,101+T,Φ.sz cs[i+1]),(101,101,T)]) (zF 5 [(101008,100,1),(100007,101+T,Φ.sz cs[i+1]),(101,101,T)]) (dF.seg (by simp [oO];omega) (by omega) rfl) ?_ rfl rfl
      simp only[bM,take_snoc hlt,Ry,aBf,Hl,hlc,hTT,List.cons_append,List.nil_append,aJ,sJ,dZ,hcm,csB,List.append_nil]
      refine aF.cons 101008 rfl rfl ?_ (aF.app (aF.famM (yH 101 101 _ (by rw[hTT];exact hs1)) (fun j hj=>hs1 j (by omega)) fun j hj=>?_) (aF.famM (Φ.ren _ _ _ _ hs2) (fun j hj=>hs2 j (by rw[Φ.len] at hj;exact hj)) fun j hj=>?_))
      · rw[List.map_append,sW 101 101 _ (by rw[hTT];exact hs1)]
        simp only[List.map_cons,List.map_nil,AV.ren,hs0]
      · repeat rw[aW (by omega)]
        rw[qZ (by omega),bJ,←hZ,iF hj]
      · have hj2:=hj
        rw[Φ.len] at hj2
        repeat rw[aW (by omega)]
        rw[qZ (by omega),bJ,t2 _ (by omega)]
        exact iF hj
  · have:i=cs.length:=by omega
    subst this
    obtain⟨n,hn⟩: ∃n,cs.length=n+1:=⟨cs.length - 1,by omega⟩
    repeat' (first
    |simp -implicitDefEqProofs (maxSteps:=9999999) (disch:=first|assumption|omega) only[aB,aC,facts,Nat.reduceAdd,aX, *]
    |((with_reducible refine aH (fun _=>?_) (fun _=>?_))<;>try omega))
    have htk:List.take (n+1) cs=cs:=by rw[←hn,List.take_length]
    rw[htk]
    have hs: ∀j,j<cnt Φ cs→dP 0 [(100,0,1),(101,1,cnt Φ cs)] (101+j)=some (1+j):=fun j hj=>by
      simp only[dP,jK]
      rw[if_neg (by omega),if_neg (by omega),if_pos (by omega)];exact congrArg some (by omega)
    refine uI.seg [(100,0,1),(101,1,cnt Φ cs)] (by simp [oO];omega) ?_ (by simp [iR,AV.ren,dP,jK])
    simp only[bM,List.cons_append,List.nil_append,aJ]
    refine aF.cons 100 rfl rfl (sW 101 1 cs hs) (aF.famM (yH 101 1 cs hs) (fun j hj=>hs j (by rw[jZ] at hj;exact hj)) fun j hj=>?_)
    rw[aW (by omega)]
    exact iF hj
structure nJ extends CF where
 each: ∀cs:List (List Vo),0<cs.length→cs.length≤1000000→(∀c∈cs,wH c∧c.length≤800)→cnt toCF cs≤90000→
  Own Tryz.prog gl 40 [.sl 1 (cs.map bW) .none,.fn 41 [] []] (.msl 0 0 cs.length 1) ([(0,dZ toCF 1 cs)]++dS 1 (csB toCF 1 cs)) 100000
instance:CoeOut nJ CF:=⟨nJ.toCF⟩
def dG:nJ where
 toCF:=Zf
 each cs h0 hl hs h9:=aFn Zf (fun _ _=>rfl) (fun c=>by show 1≤1+c.length;omega) (fun c h=>by show 1+c.length≤900;omega) (fun c h h8=>aNb c h h8) cs h0 hl hs h9
def fJ:nJ where
 toCF:=aRc
 each cs h0 hl hs h9:=aFn aRc (fun _ _=>rfl) (fun c=>Nat.le_refl 1) (fun c h=>by show 1≤900;omega) (fun c h h8=>by
  have:=Bz c ⟨h.hi,fun v hv=>⟨(h.vo v hv).hi,(h.vo v hv).ev⟩⟩
  obtain⟨n,hn⟩: ∃n,c.length=n+1:=⟨c.length - 1,by have:=h.lo;omega⟩
  rw[hn] at this
  show Own Tryz.prog gl 41 [bW c] (.msl 0 0 c.length 1) ([]++dS 0 [c.flatMap eQ]) 1000
  rw[hn]
  exact Own.more this (by omega)) cs h0 hl hs h9
theorem aBg: ∀(K:Nat) (cs:List (List Vo)),dZ Zg K cs=cs.flatMap eY∧csB Zg K cs=[]∧cnt Zg cs=0
 |K,[]=>⟨rfl,rfl,rfl⟩
 |K,c::cs=>by
  obtain⟨h1,h2,h3⟩:=aBg (K+Zg.sz c) cs
  exact⟨by rw[dZ,h1];rfl,by rw[csB,h2];rfl,by rw[cnt,h3];rfl⟩
def oK:nJ where
 toCF:=Zg
 each cs h0 hl hs h9:=by
  have:=Rl cs hl fun c hc=>⟨(hs c hc).1.hi,fun v hv=>⟨((hs c hc).1.vo v hv).hi,((hs c hc).1.vo v hv).ev⟩⟩
  obtain⟨n,hn⟩: ∃n,cs.length=n+1:=⟨cs.length - 1,by omega⟩
  obtain⟨h1,h2,_⟩:=aBg 1 cs
  rw[h1,h2]
  rw[hn] at this ⊢
  exact Own.more this (by omega)
end Go.Proofs.Pv
namespace Go.Proofs.Pv
open Go Go.Proofs
set_option maxRecDepth 100000
variable {Φ:nJ}
structure Pa.goodU (Φ:nJ) (p:Pa):Prop where
 g:p.good
 d:0<p.dyns.length
 c: ∀c∈p.cells,c.length≤800
 n:cnt Φ p.cells≤90000
theorem aSp (p:Pa) (h:p.goodU Φ):Own Tryz.prog gl 39 [p.av] (.agg [.str p.name,.int .i64 p.clef,.int .i64 p.channel,.msl 0 0 p.cells.length 1,.msl 1 0 p.dyns.length 1]) ([(0,dZ Φ 2 p.cells),(1,p.dyns.flatMap fG)]++dS 2 (csB Φ 2 p.cells)) 100000:=by
 have hn:=h.n
 have hown:Own Tryz.prog gl 40 [.sl 1 (p.cells.map bW) .none,.fn 41 [] []] (.msl 0 0 p.cells.length 1) ([(0,dZ Φ 1 p.cells)]++dS 1 (csB Φ 1 p.cells)) 100000:=Φ.each p.cells h.g.lo h.g.hi (fun c hc=>⟨h.g.ce c hc,h.c c hc⟩) hn
 obtain⟨b,hb⟩: ∃b,p.dyns.length=b+1:=⟨p.dyns.length - 1,by have:=h.d;omega⟩
 have hdy:=Qe p.dyns h.g.dh h.g.dy
 rw[hb] at hdy ⊢
 simp only[eH,bM] at hdy
 (refine Own.intro 2 mix names (fn:=Tryz.f39) Tryz.func39 rfl fun F hF hro W=>?_;simp -implicitDefEqProofs only[Tryz.ntmps39,Tryz.results39,aI,Nat.reduceAdd,Nat.reduceSub])
 repeat' (first
  |simp -implicitDefEqProofs (maxSteps:=9999999) (disch:=first|assumption|omega) only[aB,aC,facts,if_pos,Nat.reduceAdd,Nat.reduceLeDiff,AV.cells,AV.one,Pa.av,mW,Xl,nC,aFm,eU,fC,aJ,aN,mQ, *]
  |((with_reducible refine aT 40 ?_);refine Et hF hro hown (rfl) ?_)
  |((with_reducible refine aT 42 ?_);refine uY hF hro hdy (rfl) ?_))
 have hs: ∀j,j<cnt Φ p.cells→dP 0 [(4,0,1),(100008,1,1),(5,2,cnt Φ p.cells)] (5+j)=some (2+j):=fun j hj=>by
  simp only[dP,jK]
  rw[if_neg (by omega),if_neg (by omega),if_neg (by omega),if_pos (by omega)];exact congrArg some (by omega)
 refine uI.seg [(4,0,1),(100008,1,1),(5,2,cnt Φ p.cells)] (by simp [oO];omega) ?_ (by simp [AV.ren,AV.renL_eq,dP,jK])
 simp only[List.cons_append,List.nil_append,aJ]
 refine aF.cons 4 rfl rfl (sW 5 2 _ hs) (aF.cons 100008 (by simp [hget]) (by simp [dP,jK]) (mQ _) (aF.famM (yH 5 2 _ hs) (fun j hj=>hs j (by rw[jZ] at hj;exact hj)) fun j hj=>?_))
 rw[jZ] at hj
 rw[aW (by omega),aW (by omega),aW (by omega),aW (by omega)]
 exact iF (by rw[jZ];exact hj)
def bV:Nat→List Pa→List AV
 |_,[]=>[]
 |R,p::r=> .str p.name:: .int .i64 p.clef:: .int .i64 p.channel:: .msl R 0 p.cells.length 1:: .msl (R+1) 0 p.dyns.length 1::bV (R+2) r
def iM (Φ:nJ):Nat→List Pa→List (List AV)
 |_,[]=>[]
 |D,p::r=>dZ Φ D p.cells::p.dyns.flatMap fG::iM Φ (D+cnt Φ p.cells) r
def deep (Φ:nJ):Nat→List Pa→List (List AV)
 |_,[]=>[]
 |D,p::r=>csB Φ D p.cells++deep Φ (D+cnt Φ p.cells) r
def fE (Φ:nJ):List Pa→Nat
 |[]=>0
 |p::r=>cnt Φ p.cells+fE Φ r
theorem Oa: ∀l l':List Pa,fE Φ (l++l')=fE Φ l+fE Φ l'
 |[],l'=>by simp [fE]
 |c::l,l'=>by simp only[List.cons_append,fE,Oa l l'];omega
theorem kL: ∀(R:Nat) (l:List Pa),(bV R l).length=l.length*5
 |R,[]=>rfl
 |R,p::l=>by simp only[bV,List.length_cons,kL (R+2) l];omega
theorem iI: ∀(D:Nat) (l:List Pa),(iM Φ D l).length=2*l.length
 |D,[]=>rfl
 |D,p::l=>by simp only[iM,List.length_cons,iI (D+cnt Φ p.cells) l];omega
theorem qY: ∀(D:Nat) (l:List Pa),(deep Φ D l).length=fE Φ l
 |D,[]=>rfl
 |D,p::l=>by simp only[deep,fE,List.length_append,jZ,qY (D+cnt Φ p.cells) l]
theorem Rt: ∀(R:Nat) (l l':List Pa),bV R (l++l')=bV R l++bV (R+2*l.length) l'
 |R,[],l'=>rfl
 |R,p::l,l'=>by
  simp only[List.cons_append,bV,Rt (R+2) l l',List.length_cons]
  rw[show R+2+2*l.length=R+2*(l.length+1) by omega]
theorem Yw: ∀(D:Nat) (l l':List Pa),iM Φ D (l++l')=iM Φ D l++iM Φ (D+fE Φ l) l'
 |D,[],l'=>rfl
 |D,p::l,l'=>by
  simp only[List.cons_append,iM,Yw (D+cnt Φ p.cells) l l',fE]
  rw[show D+cnt Φ p.cells+fE Φ l=D+(cnt Φ p.cells+fE Φ l) by omega]
theorem aE8: ∀(D:Nat) (l l':List Pa),deep Φ D (l++l')=deep Φ D l++deep Φ (D+fE Φ l) l'
 |D,[],l'=>rfl
 |D,p::l,l'=>by
  simp only[List.cons_append,deep,aE8 (D+cnt Φ p.cells) l l',fE,List.append_assoc]
  rw[show D+cnt Φ p.cells+fE Φ l=D+(cnt Φ p.cells+fE Φ l) by omega]
theorem lS {f:Nat→Option Nat}: ∀(R R':Nat) (l:List Pa),(∀j,j<2*l.length→f (R+j)=some (R'+j))→(bV R l).map (AV.ren f)=bV R' l
 |R,R',[],_=>rfl
 | R,R',p::l,h=>by
  have h0:=h 0 (by simp)
  have h1:=h 1 (by simp;omega)
  simp only[Nat.add_zero] at h0
  have:=lS (R+2) (R'+2) l fun j hj=>by
   have:=h (2+j) (by simp only[List.length_cons];omega)
   rw[show R+2+j=R+(2+j) by omega,show R'+2+j=R'+(2+j) by omega];exact this
  simp only[bV,List.map_cons,AV.ren,h0,h1,this]
theorem wS {f:Nat→Option Nat}: ∀(D D':Nat) (l:List Pa),(∀j,j<fE Φ l→f (D+j)=some (D'+j))→(iM Φ D l).map (List.map (AV.ren f))=iM Φ D' l
 |D,D',[],_=>rfl
 | D,D',p::l,h=>by
  have h1:=sW (Φ:=Φ) D D' p.cells fun j hj=>h j (by simp only[fE];omega)
  have:=wS (D+cnt Φ p.cells) (D'+cnt Φ p.cells) l fun j hj=>by
   have:=h (cnt Φ p.cells+j) (by simp only[fE];omega)
   rw[show D+cnt Φ p.cells+j=D+(cnt Φ p.cells+j) by omega,show D'+cnt Φ p.cells+j=D'+(cnt Φ p.cells+j) by omega];exact this
  simp only[iM,List.map_cons,h1,mQ,this]
theorem zL {f:Nat→Option Nat}: ∀(D D':Nat) (l:List Pa),(∀j,j<fE Φ l→f (D+j)=some (D'+j))→(deep Φ D l).map (List.map (AV.ren f))=deep Φ D' l
 |D,D',[],_=>rfl
 | D,D',p::l,h=>by
  have h1:=yH (Φ:=Φ) D D' p.cells fun j hj=>h j (by simp only[fE];omega)
  have:=zL (D+cnt Φ p.cells) (D'+cnt Φ p.cells) l fun j hj=>by
   have:=h (cnt Φ p.cells+j) (by simp only[fE];omega)
   rw[show D+cnt Φ p.cells+j=D+(cnt Φ p.cells+j) by omega,show D'+cnt Φ p.cells+j=D'+(cnt Φ p.cells+j) by omega];exact this
  simp only[deep,List.map_append,h1,this]
theorem Xf {n R:Nat} {l:List Pa}:(bV R l).map (AV.ren (up n))=bV (R+n) l:=lS R (R+n) l fun j _=>upk
theorem Au {n K:Nat} {l:List Pa}:(iM Φ K l).map (List.map (AV.ren (up n)))=iM Φ (K+n) l:=wS K (K+n) l fun j _=>upk
theorem Ko {n K:Nat} {l:List Pa}:(deep Φ K l).map (List.map (AV.ren (up n)))=deep Φ (K+n) l:=zL K (K+n) l fun j _=>upk
theorem iC.app {n m:Nat} {a b:List (Nat×aG)} (h1:iC n m a) (h2:iC n m b):iC n m (a++b):=
 ⟨fun k hk=>by rw[bJ,h1.lo k hk];exact h2.lo k hk,fun k hk=>by rw[bJ,h1.hi k hk];exact h2.hi k hk⟩
theorem iC.wide {n m n' m':Nat} {a:List (Nat×aG)} (h:iC n m a) (h1:n'≤n) (h2:m≤m'):iC n' m' a:=⟨fun k hk=>h.lo k (by omega),fun k hk=>h.hi k (by omega)⟩
theorem aCo {n:Nat} {a:ByteArray} {b c:Int} {k o m s k2 o2 m2 s2:Nat}:AV.ren (up n) (.agg [.str a,.int .i64 b,.int .i64 c,.msl k o m s,.msl k2 o2 m2 s2])= .agg [.str a,.int .i64 b,.int .i64 c,.msl (k+n) o m s,.msl (k2+n) o2 m2 s2]:=rfl
theorem aP0 (ps:List Pa) (hl0:0<ps.length) (hl:ps.length≤400) (hs: ∀p∈ps,p.goodU Φ) (h9:fE Φ ps≤900000):
    Own Tryz.prog gl 38 [.sl 5 (ps.map Pa.av) .none,.fn 39 [] []] (.msl 0 0 ps.length 5) ([(0,bV 1 ps)]++(dS 1 (iM Φ 1000 ps)++dS 1000 (deep Φ 1000 ps))) 1000000:=by
  (refine Own.intro 2 mix names (fn:=Tryz.f38) Tryz.func38 rfl fun F hF hro W=>?_;simp -implicitDefEqProofs only[Tryz.ntmps38,Tryz.results38,aI,Nat.reduceAdd,Nat.reduceSub])
  repeat' (simp -implicitDefEqProofs (maxSteps:=9999999) (disch:=first|assumption|omega) only[aB,aC,facts,Nat.reduceAdd, *])
  refine jY (jQ 22 [1,5,8,9,10]) 1000000 ps.length (fun i (_:Unit)=>⟨[.ud,.fn 39 [] [],.ud,.ud,.ud,iR 100 5 i,.ud,.ud,.sl 5 (ps.map Pa.av) .none,.int .i64 (ps.length:Nat),.int .i64 (i:Nat),.ud,.ud,.ud,.ud,.ud,.ud,.ud,.ud,.ud,.ud,.ud],[]⟩) (fun i _=>⟨hC (jF 100 (bV 101 (ps.take i)) i++(dS 101 (iM Φ 1000 (ps.take i))++dS 1000 (deep Φ 1000 (ps.take i)))),1000000⟩) (fun i _=>i<1000001) ⟨(),by omega,bI 5 [],gK 5 [],dF.of_fit rfl rfl rfl,aF.nil,rfl,rfl⟩ ?_
  rintro i x hi hi2
  rcases Nat.lt_or_ge i ps.length with hlt|hge
  · have hv:=hs ps[i] (List.getElem_mem hlt)
    have hown:=aSp ps[i] hv
    rcases i with _|i
    · simp only[aU,aV,List.take_zero,deep,iM,dS,List.append_nil,aN]
      repeat' (first
    |simp -implicitDefEqProofs (maxSteps:=9999999) (disch:=first|assumption|omega) only[aB,aC,facts,if_pos,Nat.reduceAdd,Nat.reduceLT,Nat.reduceLeDiff,Int.reduceLE,Int.reduceAdd,fZ,dB,List.flatMap_cons,List.flatMap_nil,AV.cells,true_or,AV.one,qN,wJ,aCo,Xl,nC,aFm,eU,fC,aJ,aN,mQ,wrap_in,List.getElem?_eq_getElem,Pa.av,aX, *]
    |((with_reducible refine aH (fun _=>?_) (fun _=>?_))<;>try omega)
    | ((with_reducible refine aT 39 ?_);refine Et hF hro hown (rfl) ?_))
      have hcn:=hv.n
      have hs3: ∀j,j<cnt Φ ps[0].cells→dP 5 [(1100009,100,1),(1000008,101,2),(1000010,1000,cnt Φ ps[0].cells)] (1000010+j)=some (1000+j):=fun j hj=>by
        simp only[dP,jK]
        rw[if_neg (by omega),if_neg (by omega),if_neg (by omega),if_pos (by omega)];exact congrArg some (by omega)
      have hs1:dP 5 [(1100009,100,1),(1000008,101,2),(1000010,1000,cnt Φ ps[0].cells)] 1000008=some 101:=by simp [dP,jK]
      have hs2:dP 5 [(1100009,100,1),(1000008,101,2),(1000010,1000,cnt Φ ps[0].cells)] 1000009=some 102:=by simp [dP,jK]
      refine dM 0 () hlt (by omega) (by omega) (dP 5 [(1100009,100,1),(1000008,101,2),(1000010,1000,cnt Φ ps[0].cells)]) (zF 5 [(1100009,100,1),(1000008,101,2),(1000010,1000,cnt Φ ps[0].cells)]) (dF.seg (by simp [oO];omega) (by omega) rfl) ?_ rfl rfl
      simp only[take_snoc hlt,List.take_zero,List.nil_append,bM,bV,iM,deep,dS,List.append_nil,List.cons_append,aJ,Nat.reduceAdd]
      refine aF.cons 1100009 rfl rfl (by simp only[List.map_cons,List.map_nil,AV.ren,hs1,hs2]) (aF.cons 1000008 (by simp [hget]) hs1 (sW _ _ _ hs3) (aF.cons 1000009 (by simp [hget]) hs2 (mQ _) (aF.famM (yH _ _ _ hs3) (fun j hj=>hs3 j (by rw[jZ] at hj;exact hj)) fun j hj=>?_)))
      have hj2:=hj
      rw[jZ] at hj2
      rw[aW (by omega),aW (by omega),aW (by omega),aW (by omega),aW (by omega)]
      exact iF hj
    · have hct:fE Φ (ps.take (i+1))≤fE Φ ps:=by
        conv=>rhs;rw[←List.take_append_drop (i+1) ps,Oa]
        omega
      have hT:iC 101 1000000 (hC (dS 101 (iM Φ 1000 (ps.take (i+1))))++hC (dS 1000 (deep Φ 1000 (ps.take (i+1))))):=
        iC.app (iC.fam (by rw[iI,List.length_take];omega)) ((iC.fam (m:=1000000) (by rw[qY];omega)).wide (by omega) (Nat.le_refl _))
      have hfl:(bV 101 (ps.take (i+1))).length=(i+1)*5:=by rw[kL,List.length_take,Nat.min_eq_left (by omega)]
      have t1:=hT.lo
      have t2:=hT.hi
      have t3:=hT.dlo
      have t4:=hT.dhi
      simp only[eH,bM,List.cons_append,List.nil_append,aJ,sJ]
      generalize hZ:hC (dS 101 (iM Φ 1000 (ps.take (i+1))))++hC (dS 1000 (deep Φ 1000 (ps.take (i+1))))=Z at t1 t2 t3 t4 ⊢
      repeat' (first
    |simp -implicitDefEqProofs (maxSteps:=9999999) (disch:=first|assumption|omega) only[aB,aC,facts,if_pos,if_neg,Nat.reduceAdd,Nat.reduceEqDiff,Nat.reduceLT,Nat.reduceLeDiff,fZ,dB,List.flatMap_cons,List.flatMap_nil,AV.cells,AV.one,qN,wJ,aCo,Xl,nC,aFm,eU,fC,aJ,aN,mQ,wrap_in,List.getElem?_eq_getElem,Pa.av,aX, *]
    |((with_reducible refine aH (fun _=>?_) (fun _=>?_))<;>try omega)
    | ((with_reducible refine aT 39 ?_);refine Et hF hro hown (rfl) ?_))
      have hcn:=hv.n
      have hmin:(ps.take (i+1)).length=i+1:=by rw[List.length_take];omega
      have hlr:(iM Φ 1000 (ps.take (i+1))).length=2*(i+1):=by rw[iI,hmin]
      have hld:(deep Φ 1000 (ps.take (i+1))).length=fE Φ (ps.take (i+1)):=qY _ _
      have hcl:fE Φ ps=fE Φ (ps.take (i+1))+cnt Φ ps[i+1].cells+fE Φ (ps.drop (i+2)):=by
        conv=>lhs;rw[←List.take_append_drop (i+2) ps,Oa,take_snoc hlt,Oa]
        simp [fE]
      generalize hTT:fE Φ (ps.take (i+1))=T at hct hld hcl
      have hs1: ∀j,j<2*(i+1)→dP 5 [(1100009,100,1),(1000008,101+2*(i+1),2),(1000010,1000+T,cnt Φ ps[i+1].cells),(101,101,2*(i+1)),(1000,1000,T)] (101+j)=some (101+j):=fun j hj=>by
        simp only[dP,jK]
        rw[if_neg (by omega),if_neg (by omega),if_neg (by omega),if_neg (by omega),if_pos (by omega)];exact congrArg some (by omega)
      have hs2: ∀j,j<T→dP 5 [(1100009,100,1),(1000008,101+2*(i+1),2),(1000010,1000+T,cnt Φ ps[i+1].cells),(101,101,2*(i+1)),(1000,1000,T)] (1000+j)=some (1000+j):=fun j hj=>by
        simp only[dP,jK]
        rw[if_neg (by omega),if_neg (by omega),if_neg (by omega),if_neg (by omega),if_neg (by omega),if_pos (by omega)];exact congrArg some (by omega)
      have hs3: ∀j,j<cnt Φ ps[i+1].cells→dP 5 [(1100009,100,1),(1000008,101+2*(i+1),2),(1000010,1000+T,cnt Φ ps[i+1].cells),(101,101,2*(i+1)),(1000,1000,T)] (1000010+j)=some (1000+T+j):=fun j hj=>by
        simp only[dP,jK]
        rw[if_neg (by omega),if_neg (by omega),if_neg (by omega),if_pos (by omega)];exact congrArg some (by omega)
      have hs4:dP 5 [(1100009,100,1),(1000008,101+2*(i+1),2),(1000010,1000+T,cnt Φ ps[i+1].cells),(101,101,2*(i+1)),(1000,1000,T)] 1000008=some (101+2*(i+1)):=by simp [dP,jK]
      have hs5:dP 5 [(1100009,100,1),(1000008,101+2*(i+1),2),(1000010,1000+T,cnt Φ ps[i+1].cells),(101,101,2*(i+1)),(1000,1000,T)] 1000009=some (101+2*(i+1)+1):=by simp [dP,jK]
      refine dM (i+1) () hlt (by omega) (by omega) (dP 5 [(1100009,100,1),(1000008,101+2*(i+1),2),(1000010,1000+T,cnt Φ ps[i+1].cells),(101,101,2*(i+1)),(1000,1000,T)]) (zF 5 [(1100009,100,1),(1000008,101+2*(i+1),2),(1000010,1000+T,cnt Φ ps[i+1].cells),(101,101,2*(i+1)),(1000,1000,T)]) (dF.seg (by simp [oO];omega) (by omega) rfl) ?_ rfl rfl
      simp only[bM,take_snoc hlt,Rt,Yw,aE8,Hl,hlr,hld,hTT,hmin,List.cons_append,List.nil_append,aJ,sJ,bV,iM,deep,dS,List.append_nil,aN]
      refine aF.cons 1100009 rfl rfl ?_ (aF.app (aF.app (aF.famM (wS 1000 1000 _ (by rw[hTT];exact hs2)) (fun j hj=>hs1 j (by omega)) fun j hj=>?_) (aF.cons 1000008 (by simp [hget]) hs4 (sW _ _ _ hs3) (aF.cons 1000009 (by simp [hget]) hs5 (mQ _) aF.nil)))
        (aF.app (aF.famM (zL 1000 1000 _ (by rw[hTT];exact hs2)) (fun j hj=>hs2 j (by omega)) fun j hj=>?_) (aF.famM (yH _ _ _ hs3) (fun j hj=>hs3 j (by rw[jZ] at hj;exact hj)) fun j hj=>?_)))
      · rw[List.map_append,lS 101 101 _ (by rw[hmin];exact hs1)]
        simp only[List.map_cons,List.map_nil,AV.ren,hs4,hs5]
      · have hj2:=hj
        rw[hlr] at hj2
        rw[aW (by omega),aW (by omega),aW (by omega),aW (by omega),aW (by omega),qZ (by omega),bJ,←hZ,bJ,iF hj]
      · have hj2:=hj
        rw[hld] at hj2
        rw[aW (by omega),aW (by omega),aW (by omega),aW (by omega),aW (by omega),qZ (by omega),bJ,←hZ,bJ,uJ (by omega),iF hj]
      · have hj2:=hj
        rw[jZ] at hj2
        rw[aW (by omega),aW (by omega),aW (by omega),aW (by omega),aW (by omega),qZ (by omega),bJ,t2 _ (by omega)]
        exact iF hj
  · have:i=ps.length:=by omega
    subst this
    obtain⟨n,hn⟩: ∃n,ps.length=n+1:=⟨ps.length - 1,by omega⟩
    repeat' (first
    |simp -implicitDefEqProofs (maxSteps:=9999999) (disch:=first|assumption|omega) only[aB,aC,facts,Nat.reduceAdd,aX, *]
    |((with_reducible refine aH (fun _=>?_) (fun _=>?_))<;>try omega))
    have htk:List.take (n+1) ps=ps:=by rw[←hn,List.take_length]
    rw[htk]
    have hs1: ∀j,j<2*ps.length→dP 0 [(100,0,1),(101,1,2*ps.length),(1000,1000,fE Φ ps)] (101+j)=some (1+j):=fun j hj=>by
      simp only[dP,jK]
      rw[if_neg (by omega),if_neg (by omega),if_pos (by omega)];exact congrArg some (by omega)
    have hs2: ∀j,j<fE Φ ps→dP 0 [(100,0,1),(101,1,2*ps.length),(1000,1000,fE Φ ps)] (1000+j)=some (1000+j):=fun j hj=>by
      simp only[dP,jK]
      rw[if_neg (by omega),if_neg (by omega),if_neg (by omega),if_pos (by omega)];exact congrArg some (by omega)
    refine uI.seg [(100,0,1),(101,1,2*ps.length),(1000,1000,fE Φ ps)] (by simp [oO];omega) ?_ (by simp [iR,AV.ren,dP,jK])
    simp only[bM,List.cons_append,List.nil_append,aJ,sJ]
    refine aF.cons 100 rfl rfl (lS 101 1 ps hs1) (aF.app (aF.famM (wS 1000 1000 ps hs2) (fun j hj=>hs1 j (by rw[iI] at hj;exact hj)) fun j hj=>?_) (aF.famM (zL 1000 1000 ps hs2) (fun j hj=>hs2 j (by rw[qY] at hj;exact hj)) fun j hj=>?_))
    · rw[aW (by omega),bJ,iF hj]
    · rw[aW (by omega),bJ,uJ (by rw[iI];omega),iF hj]
end Go.Proofs.Pv
namespace Go.Proofs.Pv
open Go Go.Proofs
set_option maxRecDepth 100000
variable {Φ:nJ}
structure Sc.goodU (Φ:nJ) (s:Sc):Prop where
 lo:0<s.parts.length
 hi:s.parts.length≤400
 pa: ∀p∈s.parts,p.goodU Φ
 n:fE Φ s.parts≤900000
 b0:0<s.bars.length
 bh:s.bars.length≤1000000
 ba: ∀b∈s.bars,b.short
def scC (s:Sc):List (Nat×List AV):=[(0,bV 2 s.parts),(1,s.bars.flatMap Ba.cells)]
def Zo (Φ:nJ) (s:Sc):List (Nat×List AV):=dS 2 (iM Φ 1000 s.parts)++dS 1000 (deep Φ 1000 s.parts)
theorem aIs (s:Sc) (h:s.goodU Φ):Own Tryz.prog gl 16 [s.av] (.agg [.str s.title,.msl 1 0 s.bars.length 14,.msl 0 0 s.parts.length 5]) (scC s++Zo Φ s) 2000000:=by
 have h1:=h.hi
 have h2:=h.n
 have hown:=aP0 s.parts h.lo h.hi h.pa h.n
 have hba:=Qg s.bars h.bh h.ba
 obtain⟨n,hn⟩: ∃n,s.bars.length=n+1:=⟨s.bars.length - 1,by have:=h.b0;omega⟩
 rw[hn] at hba
 simp only[eH,bM] at hba
 rw[scC,Zo]
 (refine Own.intro 2 mix names (fn:=Tryz.f16) Tryz.func16 rfl fun F hF hro W=>?_;simp -implicitDefEqProofs only[Tryz.ntmps16,Tryz.results16,aI,Nat.reduceAdd,Nat.reduceSub])
 repeat' (first
  |simp -implicitDefEqProofs (maxSteps:=9999999) only[↓reduceIte,aB,aC,facts,Nat.reduceAdd,Nat.reduceEqDiff,Nat.reduceLeDiff,AV.cells,AV.one,Sc.av,mW,Xf,Es,sJ,nC,Au,Ko,eU,fC,aJ,aN,nD, *]
  |((with_reducible refine aT 38 ?_);refine Et hF hro hown (rfl) ?_)
  |((with_reducible refine aT 37 ?_);refine uY hF hro hba (rfl) ?_))
 have hs1: ∀j,j<2*s.parts.length→dP 0 [(9,0,1),(4,1,1),(10,2,2*s.parts.length),(1009,1000,fE Φ s.parts)] (10+j)=some (2+j):=fun j hj=>by
  simp only[dP,jK]
  rw[if_neg (by omega),if_neg (by omega),if_neg (by omega),if_pos (by omega)];exact congrArg some (by omega)
 have hs2: ∀j,j<fE Φ s.parts→dP 0 [(9,0,1),(4,1,1),(10,2,2*s.parts.length),(1009,1000,fE Φ s.parts)] (1009+j)=some (1000+j):=fun j hj=>by
  simp only[dP,jK]
  rw[if_neg (by omega),if_neg (by omega),if_neg (by omega),if_neg (by omega),if_pos (by omega)];exact congrArg some (by omega)
 refine uI.seg [(9,0,1),(4,1,1),(10,2,2*s.parts.length),(1009,1000,fE Φ s.parts)] (by simp [oO];omega) ?_ (by simp [AV.ren,AV.renL_eq,dP,jK])
 simp only[List.cons_append,List.nil_append,aJ,sJ]
 refine aF.cons 9 rfl rfl (lS 10 2 _ hs1) (aF.cons 4 rfl rfl (nD _) (aF.app (aF.famM (wS 1009 1000 _ hs2) (fun j hj=>hs1 j (by rw[iI] at hj;exact hj)) fun j hj=>?_) (aF.famM (zL 1009 1000 _ hs2) (fun j hj=>hs2 j (by rw[qY] at hj;exact hj)) fun j hj=>?_)))
 ·rw[aW (by omega),aW (by omega),aW (by omega),aW (by omega),bJ,iF hj]
 ·rw[aW (by omega),aW (by omega),aW (by omega),aW (by omega),bJ,uJ (by rw[iI];omega),iF hj]
end Go.Proofs.Pv
