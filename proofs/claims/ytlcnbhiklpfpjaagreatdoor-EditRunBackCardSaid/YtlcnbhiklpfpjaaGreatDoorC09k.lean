/-
Layer 9: edit.Apply at an edit of events.
Conditions: none but those that each statement names.
-/
import Derived.Test.YtlcnbhiklpfpjaaGreatDoorC09n
set_option linter.unusedVariables false
set_option linter.unusedSimpArgs false
set_option maxRecDepth 100000
set_option maxHeartbeats 16000000
namespace Go.Proofs.Pv
open Go Go.Proofs
theorem zC {n:Nat} {a:ByteArray} {r:List AV} {j k o m s:Nat}:AV.ren (up n) (.agg [.str a,.sl j r .none,.msl k o m s])= .agg [.str a,.sl j r .none,.msl (k+n) o m s]:=rfl
def aVs (o:aH) (j0 b0 v0 a n:Nat) (vo:Vo):AV:= .agg [.int .i64 1,.int .i64 (j0:Nat),.int .i64 (b0:Nat),.int .i64 (v0:Nat),.int .i64 (a:Nat),.int .i64 (o.events.length:Nat),.sl 9 (((vo.l.drop a).take n).map Ev.av) .none,.sl 14 [] .full,.sl 1 [] .full,.sl 1 [] .full,.int .i64 0,.int .i64 0,.str ⟨#[]⟩]
def errR (e:Int):AV:= .tup [.agg [.str ⟨#[]⟩,.sl 14 [] .none,.sl 5 [] .none],.agg [.int .i64 0,.int .i64 0,.int .i64 0,.int .i64 0,.int .i64 0,.int .i64 0,.sl 9 [] .none,.sl 14 [] .none,.sl 1 [] .none,.sl 1 [] .none,.int .i64 0,.int .i64 0,.str ⟨#[]⟩],.int .i64 e]
theorem wW (a:Int):Ih Tryz.prog 9 3 (.int .i64 a)=true:=by kernel_rfl
theorem wX (a b:Int):uK Tryz.prog 9 3 (.int .i64 a) (.int .i64 b)=some (a==b):=by kernel_rfl
theorem uH {P:Program} {kt:TypeId} {k:AV} {i:Nat}:oZ P kt k [] i=some none:=rfl
theorem rE {kt:TypeId} {k:AV} {P:Program} {i:Nat} {e:ME} {es:List ME}:oZ P kt k (e::es) i=(match uK P 9 kt k e.key with|some true=>some (some i)|some false=>oZ P kt k es (i+1)|none=>none):=rfl
theorem aM1 (s:Sc) (o:aH) (hk:o.kind=1) (hs:s.small) (hg:s.good) (hchk:s.checkR.2=0) (j0 b0 v0 a n:Nat) (hj:j0<s.parts.length) (hbb:b0<s.bars.length) (hb0:b0< (s.parts.getD j0 pa0).cells.length) (hv0:v0< ((s.parts.getD j0 pa0).cells.getD b0 []).length)
  (hp:o.part=(j0:Nat)) (hq:o.bar=(b0:Nat)) (hv:o.voice=(v0:Nat)) (ha:o.at_=(a:Nat)) (hn:o.count=(n:Nat))
  (vo:Vo) (hvo:((s.parts.getD j0 pa0).cells.getD b0 []).getD v0 ⟨[]⟩=vo) (han:a+n<=vo.l.length) (hll:vo.l.length<=1000000) (hol:o.events.length<=1000000) (hos: ∀e∈o.events,e.short) (hsum:vo.l.length+o.events.length+1<=1000000)
  (hts:(kW s j0 b0 v0 (fZ vo.l a n o.events)).small) (htc:(kW s j0 b0 v0 (fZ vo.l a n o.events)).checkR.2=0):
  Own Tryz.prog gl 9 [s.av,o.av] (.tup [.agg [.str s.title,.sl 14 (s.bars.map Ba.av) .none,.msl 0 0 s.parts.length 5],aVs o j0 b0 v0 a n vo,.int .i64 0])
   [(0,aZ (lC 1 s.parts j0) s.parts.length),(1,aZ (jG 2 (s.parts.getD j0 pa0).cells b0) (s.parts.getD j0 pa0).cells.length),(2,aZ (jU 3 (((s.parts.getD j0 pa0).cells.getD b0 []).set v0 ⟨fZ vo.l a n o.events⟩) v0) ((s.parts.getD j0 pa0).cells.getD b0 []).length),(3,(fZ vo.l a n o.events).flatMap Ev.cells)] 4:=by
 have hown:=uT s hg j0 b0 v0 hj hb0 hv0
 (refine Own.intro 2 mix names (fn:=Tryz.f9) Tryz.func9 rfl fun F hF hro W=>?_;simp only[Tryz.ntmps9,Tryz.results9,aJ,Nat.reduceAdd,Nat.reduceSub])
 repeat' (first
  |simp -implicitDefEqProofs only[↓reduceIte,aA,aC,facts,Nat.reduceAdd,Nat.reduceEqDiff,Nat.reduceLeDiff,Int.reduceBEq,Int.reduceBNe,nS,wW,wX,uH,rE,yV,AV.cells,AV.one,aH.av,Sc.av,pR,qV,hk,hchk,zC,eX,fH,aK,aN,gB,vT,yD,Gv,vM,bF,aU,aV,aW, *]
  |((with_reducible refine dG 16 ?_);refine kR hF hro hown (rfl) ?_)
  |((with_reducible refine aO ?_);refine bM (by decide+kernel) ?_)
  |((with_reducible refine dP ?_ ?_);· decide+kernel)
  |((with_reducible refine aS 15 ?_);refine PC.useZ hF (lT s hs) (rfl) fun v hv=>?_;subst hv))
 refine aS 20 ?_
 have hq1:(aZ (jG 22 (s.parts.getD j0 pa0).cells b0) (s.parts.getD j0 pa0).cells.length).length=(s.parts.getD j0 pa0).cells.length:=by rw[iG (k:=1) (fun _=>rfl),Nat.mul_one]
 have hq2:(List.drop b0 (aZ (jG 22 (s.parts.getD j0 pa0).cells b0) (s.parts.getD j0 pa0).cells.length)).head?=some (.msl 22 0 ((s.parts.getD j0 pa0).cells.getD b0 []).length 1):=by
  have:=qA (c:=jG 22 (s.parts.getD j0 pa0).cells b0) (k:=1) (fun _=>rfl) hb0 (i:=0) (by omega)
  rw[Nat.mul_one,Nat.add_zero] at this
  rw[this];simp [jG]
 have hv1:(aZ (jU 23 ((s.parts.getD j0 pa0).cells.getD b0 []) v0) ((s.parts.getD j0 pa0).cells.getD b0 []).length).length=((s.parts.getD j0 pa0).cells.getD b0 []).length:=by rw[iG (k:=1) (fun _=>rfl),Nat.mul_one]
 have hv2:(List.drop v0 (aZ (jU 23 ((s.parts.getD j0 pa0).cells.getD b0 []) v0) ((s.parts.getD j0 pa0).cells.getD b0 []).length)).head?=some (.msl 23 0 vo.l.length 9):=by
  have:=qA (c:=jU 23 ((s.parts.getD j0 pa0).cells.getD b0 []) v0) (k:=1) (fun _=>rfl) hv0 (i:=0) (by omega)
  rw[Nat.mul_one,Nat.add_zero] at this
  rw[this];simp only[jU,if_true,hvo];rfl
 refine Xe s o _ _ _ _ _ _ j0 b0 v0 a n _ _ _ _ vo hj hbb hb0 hv0 rfl hq1 hq2 hv1 hv2 han hll hol hos hsum hF hro ?_
 simp only[xB]
 repeat' (first
  |simp -implicitDefEqProofs only[↓reduceIte,aA,aC,facts,Nat.reduceAdd,Nat.reduceEqDiff,Nat.reduceLeDiff,Int.reduceBNe,pR,qV,htc,bF,aU,aV,dB,aW, *]
  |((with_reducible refine aO ?_);refine bM (by decide+kernel) ?_)
  |((with_reducible refine dP ?_ ?_);· decide+kernel)
  |((with_reducible refine aS 15 ?_);(refine Ve hF (fun k=>k==22) 5 (lT _ hts) (fun v hv=>by subst hv;rfl) (by simp only[List.map_cons,List.map_nil];rw[aDf (d:=0) hj hb0 hv0 rfl rfl rfl rfl rfl rfl]) (fun v hv=>?_);subst hv)))
 have hsp:=aDe (q:=23) (q':=183) (l:=fZ vo.l a n o.events) hv0
 simp only[splice,List.length_cons,List.length_nil,Nat.zero_add] at hsp
 rw[hsp]
 exact vI.of [(20,0),(21,1),(22,2),(183,3)] rfl (aG.cons 20 rfl rfl (dO _ fun j _=>Ll (f:=bI 0 [(20,0),(21,1),(22,2),(183,3)]) (q:=21) (q':=1) rfl _ _ j) (aG.cons 21 rfl rfl (dO _ fun j _=>wI (f:=bI 0 [(20,0),(21,1),(22,2),(183,3)]) (q:=22) (q':=2) rfl _ _ j) (aG.cons 22 rfl rfl (dO _ fun j _=>oQ (f:=bI 0 [(20,0),(21,1),(22,2),(183,3)]) (q:=183) (q':=3) rfl _ _ j) (aG.cons 183 rfl rfl (gB _) aG.nil)))) rfl
theorem aHc (s:Sc) (o:aH) (hk:o.kind=1) (hs:s.small) (hg:s.good) (hchk:s.checkR.2=0) (j0 b0 v0 a n:Nat) (hj:j0<s.parts.length) (hbb:b0<s.bars.length) (hb0:b0< (s.parts.getD j0 pa0).cells.length) (hv0:v0< ((s.parts.getD j0 pa0).cells.getD b0 []).length)
  (hp:o.part=(j0:Nat)) (hq:o.bar=(b0:Nat)) (hv:o.voice=(v0:Nat)) (ha:o.at_=(a:Nat)) (hn:o.count=(n:Nat))
  (vo:Vo) (hvo:((s.parts.getD j0 pa0).cells.getD b0 []).getD v0 ⟨[]⟩=vo) (han:a+n<=vo.l.length) (hll:vo.l.length<=1000000) (hol:o.events.length<=1000000) (hos: ∀e∈o.events,e.short) (hsum:vo.l.length+o.events.length+1<=1000000)
  (hts:(kW s j0 b0 v0 (fZ vo.l a n o.events)).small) (htc: ¬(kW s j0 b0 v0 (fZ vo.l a n o.events)).checkR.2=0):
  PC Tryz.prog gl 9 [s.av,o.av] (fun v=>v=errR (kW s j0 b0 v0 (fZ vo.l a n o.events)).checkR.2):=by
 have hown:=uT s hg j0 b0 v0 hj hb0 hv0
 (refine PC.introZ 2 mix (fn:=Tryz.f9) Tryz.func9 rfl (names 9 _ Tryz.func9) fun F hF hro W=>?_;simp only[Tryz.ntmps9,Tryz.results9,aJ,Nat.reduceAdd,Nat.reduceSub])
 repeat' (first
  |simp -implicitDefEqProofs only[↓reduceIte,aA,aC,facts,Nat.reduceAdd,Nat.reduceEqDiff,Nat.reduceLeDiff,Int.reduceBEq,Int.reduceBNe,nS,wW,wX,uH,rE,yV,AV.cells,AV.one,aH.av,Sc.av,pR,qV,hk,hchk,zC,eX,fH,aK,aN,gB,vT,yD,Gv,vM,bF,aU,aV,aW, *]
  |((with_reducible refine dG 16 ?_);refine kR hF hro hown (rfl) ?_)
  |((with_reducible refine aO ?_);refine bM (by decide+kernel) ?_)
  |((with_reducible refine dP ?_ ?_);· decide+kernel)
  |((with_reducible refine aS 15 ?_);refine PC.useZ hF (lT s hs) (rfl) fun v hv=>?_;subst hv))
 refine aS 20 ?_
 have hq1:(aZ (jG 22 (s.parts.getD j0 pa0).cells b0) (s.parts.getD j0 pa0).cells.length).length=(s.parts.getD j0 pa0).cells.length:=by rw[iG (k:=1) (fun _=>rfl),Nat.mul_one]
 have hq2:(List.drop b0 (aZ (jG 22 (s.parts.getD j0 pa0).cells b0) (s.parts.getD j0 pa0).cells.length)).head?=some (.msl 22 0 ((s.parts.getD j0 pa0).cells.getD b0 []).length 1):=by
  have:=qA (c:=jG 22 (s.parts.getD j0 pa0).cells b0) (k:=1) (fun _=>rfl) hb0 (i:=0) (by omega)
  rw[Nat.mul_one,Nat.add_zero] at this
  rw[this];simp [jG]
 have hv1:(aZ (jU 23 ((s.parts.getD j0 pa0).cells.getD b0 []) v0) ((s.parts.getD j0 pa0).cells.getD b0 []).length).length=((s.parts.getD j0 pa0).cells.getD b0 []).length:=by rw[iG (k:=1) (fun _=>rfl),Nat.mul_one]
 have hv2:(List.drop v0 (aZ (jU 23 ((s.parts.getD j0 pa0).cells.getD b0 []) v0) ((s.parts.getD j0 pa0).cells.getD b0 []).length)).head?=some (.msl 23 0 vo.l.length 9):=by
  have:=qA (c:=jU 23 ((s.parts.getD j0 pa0).cells.getD b0 []) v0) (k:=1) (fun _=>rfl) hv0 (i:=0) (by omega)
  rw[Nat.mul_one,Nat.add_zero] at this
  rw[this];simp only[jU,if_true,hvo];rfl
 refine Xe s o _ _ _ _ _ _ j0 b0 v0 a n _ _ _ _ vo hj hbb hb0 hv0 rfl hq1 hq2 hv1 hv2 han hll hol hos hsum hF hro ?_
 simp only[xB]
 repeat' (first
  |simp -implicitDefEqProofs only[↓reduceIte,aA,aC,facts,Nat.reduceAdd,Nat.reduceEqDiff,Nat.reduceLeDiff,Int.reduceBNe,pR,qV,bF,aU,aV,dB,aW, *]
  |((with_reducible refine dL (fun _=>?_) (fun _=>?_))<;>try omega)
  |((with_reducible refine aO ?_);refine bM (by decide+kernel) ?_)
  |((with_reducible refine dP ?_ ?_);· decide+kernel)
  |((with_reducible refine aS 15 ?_);(refine Ve hF (fun k=>k==22) 5 (lT _ hts) (fun v hv=>by subst hv;rfl) (by simp only[List.map_cons,List.map_nil];rw[aDf (d:=0) hj hb0 hv0 rfl rfl rfl rfl rfl rfl]) (fun v hv=>?_);subst hv)))
 ·rfl
 ·rename_i h
  exact absurd (by simpa using h) htc
structure Right (s:Sc):Prop where
 b0:0<s.bars.length
 b1:s.bars.length<=100
 p0:0<s.parts.length
 p1:s.parts.length<=8
 len: ∀p∈s.parts,p.cells.length=s.bars.length/\p.dyns.length=s.bars.length
 cell: ∀p∈s.parts,∀c∈p.cells,0<c.length/\c.length<=4
 vo: ∀p∈s.parts,∀c∈p.cells,∀v∈c,0<v.l.length/\v.l.length<=64
theorem aFl {α:Type} {l:List α} {x d:α} (h:x∈l): ∃i,i<l.length/\l.getD i d=x:=by
 obtain⟨i,hi,rfl⟩:=List.mem_iff_getElem.1 h
 exact⟨i,hi,getD_at hi⟩
theorem mO {s:Sc} (h:s.checkR.2=0):Right s:=by
 unfold Sc.checkR at h
 split at h
 ·exact absurd h (by decide)
 ·rename_i h0
  split at h
  ·exact absurd h (by decide)
  ·split at h
   ·rename_i k hk
    have:=(Bo hk).1
    simp at this
    exact absurd h this
   ·rename_i hbars
    split at h
    ·rename_i i hi
     have:=(Bo hi).1
     simp at this
     exact absurd h this
    ·rename_i hparts
     have hb: ∀j,j<s.bars.length->(xM s j).errR=0:=fun j hj=>by simpa using Ez hbars j hj
     have hp: ∀i,i<s.parts.length->(nX s i).2=0:=fun i hi=>by simpa using Ez hparts i hi
     have hlen: ∀p∈s.parts,p.cells.length=s.bars.length/\p.dyns.length=s.bars.length:=by
      intro p hpm
      obtain⟨i,hi,rfl⟩:=aFl (d:=pa0) hpm
      have:=(zU (hp i hi)).1
      simp only[Pa.right,Bool.and_eq_true,decide_eq_true_eq] at this
      have e:partAt s i=s.parts.getD i pa0:=rfl
      rw[e] at this
      omega
     have hcell: ∀i,i<s.parts.length-> ∀k,k<s.bars.length->cellAt s i k≠[]/\(cellAt s i k).length<=4:=by
      intro i hi k hk
      have h3:=Oo (zU (hp i hi)).2 k hk
      unfold oN zS at h3
      split at h3
      ·exact absurd h3 (by decide)
      ·rename_i h4
       refine⟨fun e=>h4 (.inl (by rw[e];rfl)),by omega⟩
     have key: ∀p∈s.parts,∀c∈p.cells,∃i k,i<s.parts.length/\k<s.bars.length/\cellAt s i k=c:=by
      intro p hpm c hc
      have hl:=(hlen p hpm).1
      obtain⟨i,hi,rfl⟩:=aFl (d:=pa0) hpm
      obtain⟨k,hk,hck⟩:=aFl (d:=[]) hc
      exact⟨i,k,hi,by omega,hck⟩
     refine⟨by omega,by omega,by omega,by omega,hlen,fun p hpm c hc=>?_,fun p hpm c hc v hv=>?_⟩
     ·obtain⟨i,k,hi,hk,rfl⟩:=key p hpm c hc
      have:=hcell i hi k hk
      exact⟨List.length_pos_iff.2 this.1,this.2⟩
     ·obtain⟨i,k,hi,hk,rfl⟩:=key p hpm c hc
      obtain⟨n,hn,rfl⟩:=List.mem_iff_getElem.1 hv
      have h3:=Oo (zU (hp i hi)).2 k hk
      have h4:=aCj h3 n hn
      exact⟨(Kq hb (hp i hi) hk hn).1,(Sl (Gu h4).1).1⟩
theorem Lu {s:Sc} (hr:Right s) (hs:s.small) (he: ∀b∈s.bars,b.turn.endings.length<=1000000):s.good:=by
 refine⟨hr.p0,by have:=hr.p1;omega,fun p hp=>?_,by have:=hr.b1;omega,fun b hb=>⟨(hs.bars b hb).groups,he b hb,(hs.bars b hb).tempos⟩⟩
 have hl:=hr.len p hp
 have hb0:=hr.b0
 have hb1:=hr.b1
 refine⟨by omega,by omega,fun c hc=>?_,by omega,fun d hd=>((hs.parts p hp).dyns d hd).1⟩
 have hcl:=hr.cell p hp c hc
 refine⟨hcl.1,by omega,fun v hv=>?_⟩
 have hv1:=hr.vo p hp c hc v hv
 have hv2:=((hs.parts p hp).voices c hc).2 v hv
 exact⟨hv1.1,by omega,fun e he'=>⟨(hv2.2 e he').1,(hv2.2 e he').2.1,(hv2.2 e he').2.2⟩⟩
theorem aO6 (a b c:Int) (ha: -9223372036854775808<=a/\a<=9223372036854775807) (hc:0<=c/\c<=1000000) (h: ¬(0<=a/\0<=b/\a<=c/\b<=c - a)):PC Tryz.prog gl 49 [.int .i64 a,.int .i64 b,.int .i64 c] (fun v=>v= .bool false):=by
 have:=aJk a b c ha hc
 rwa [decide_eq_false h] at this
def chHi (s:Sc) (kd:AV) (p q:Int) (vo at_:Int) (rest:List AV) (R P:List AV):List (Nat×aI):=[(28,.cells ([.str s.title,.sl 14 (s.bars.map Ba.av) .none,.msl 20 0 s.parts.length 5,kd,.int .i64 p,.int .i64 q,.int .i64 vo,.int .i64 at_]++rest)),(20,.cells P),(21,.cells R)]
theorem aO7 (s:Sc) (kd:AV) (p q vo at_:Int) (rest R P:List AV) (h1: ¬(0<=p/\p< (s.parts.length:Nat))):Rd Tryz.prog gl 47 [.ptr 28 0] (hget (chHi s kd p q vo at_ rest R P)) .nilp:=by
 refine Rd.introZ 2 200 mix names (fn:=Tryz.f47) Tryz.func47 rfl (fun f hf=>by rfl) fun m F hF hro W=>?_
 simp only[Tryz.ntmps47,Tryz.results47,aJ,Nat.reduceAdd,Nat.reduceSub,chHi]
 repeat' (first
  |simp -implicitDefEqProofs only[↓reduceIte,aA,aC,facts,Nat.reduceAdd,Nat.reduceEqDiff,Nat.reduceLeDiff,lL,bF,aU,pG,aV,aW, *]
  |((with_reducible refine dG 48 ?_);refine bW (tH _ _ h1) (rfl) ?_)
  |((with_reducible refine aO ?_);refine bM (by decide+kernel) ?_)
  |((with_reducible refine dP ?_ ?_);· kernel_rfl))
 exact aE2 (by simp only[hget];rw[if_neg (by omega),if_neg (by omega),if_neg (by omega)])
theorem aO8 (s:Sc) (kd:AV) (p q vo at_:Int) (rest R P:List AV) (h0:0<=p/\p< (s.parts.length:Nat)) (h1: ¬(0<=q/\q< (s.bars.length:Nat))):Rd Tryz.prog gl 47 [.ptr 28 0] (hget (chHi s kd p q vo at_ rest R P)) .nilp:=by
 refine Rd.introZ 2 200 mix names (fn:=Tryz.f47) Tryz.func47 rfl (fun f hf=>by rfl) fun m F hF hro W=>?_
 simp only[Tryz.ntmps47,Tryz.results47,aJ,Nat.reduceAdd,Nat.reduceSub,chHi]
 repeat' (first
  |simp -implicitDefEqProofs only[↓reduceIte,aA,aC,facts,Nat.reduceAdd,Nat.reduceEqDiff,Nat.reduceLeDiff,lL,bF,aU,aV,aW, *]
  |((with_reducible refine dG 48 ?_);refine bW (iF _ _ h0) (rfl) ?_)
  |((with_reducible refine dG 48 ?_);refine bW (tH _ _ h1) (rfl) ?_)
  |((with_reducible refine aO ?_);refine bM (by decide+kernel) ?_)
  |((with_reducible refine dP ?_ ?_);· kernel_rfl))
 exact aE2 (by simp only[hget];rw[if_neg (by omega),if_neg (by omega),if_neg (by omega)])
theorem aEa (s:Sc) (o:aH) (hs:s.small) (hchk: ¬s.checkR.2=0):PC Tryz.prog gl 9 [s.av,o.av] (fun v=>v=errR s.checkR.2):=by
 (refine PC.introZ 2 mix (fn:=Tryz.f9) Tryz.func9 rfl (names 9 _ Tryz.func9) fun F hF hro W=>?_;simp only[Tryz.ntmps9,Tryz.results9,aJ,Nat.reduceAdd,Nat.reduceSub])
 repeat' (first
  |simp -implicitDefEqProofs only[↓reduceIte,aA,aC,facts,Nat.reduceAdd,Nat.reduceEqDiff,aH.av,Sc.av,pR,qV,aU,aV, *]
  |with_reducible refine aKy ?_
  |((with_reducible refine dL (fun _=>?_) (fun _=>?_))<;>try omega)
  |((with_reducible refine aO ?_);refine bM (by decide+kernel) ?_)
  |((with_reducible refine aS 15 ?_);refine PC.useZ hF (lT s hs) (rfl) fun v hv=>?_;subst hv))
 ·rfl
 ·rename_i h
  exact absurd (by simpa using h) hchk
theorem aO9 (s:Sc) (o:aH) (hk:o.kind=1) (hs:s.small) (hg:s.good) (hchk:s.checkR.2=0) (h1: ¬(0<=o.part/\o.part< (s.parts.length:Nat))):PC Tryz.prog gl 9 [s.av,o.av] (fun v=>v=errR 90):=by
 have hb0:0< (s.parts.getD 0 pa0).cells.length:=by
  rw[List.getD_eq_getElem?_getD,List.getElem?_eq_getElem hg.lo];exact(hg.pa _ (List.getElem_mem hg.lo)).lo
 have hv0:0< ((s.parts.getD 0 pa0).cells.getD 0 []).length:=by
  have hp:(s.parts.getD 0 pa0).good:=by
   rw[List.getD_eq_getElem?_getD,List.getElem?_eq_getElem hg.lo];exact hg.pa _ (List.getElem_mem hg.lo)
  rw[List.getD_eq_getElem?_getD (l:=(s.parts.getD 0 pa0).cells),List.getElem?_eq_getElem hb0];exact(hp.ce _ (List.getElem_mem hb0)).lo
 have hown:=uT s hg 0 0 0 hg.lo hb0 hv0
 (refine PC.introZ 2 mix (fn:=Tryz.f9) Tryz.func9 rfl (names 9 _ Tryz.func9) fun F hF hro W=>?_;simp only[Tryz.ntmps9,Tryz.results9,aJ,Nat.reduceAdd,Nat.reduceSub])
 repeat' (first
  |simp -implicitDefEqProofs only[↓reduceIte,aA,aC,facts,Nat.reduceAdd,Nat.reduceEqDiff,Nat.reduceLeDiff,Int.reduceBEq,Int.reduceBNe,nS,wW,wX,uH,rE,yV,AV.cells,AV.one,aH.av,Sc.av,pR,qV,hk,hchk,zC,eX,fH,aK,aN,gB,vT,yD,Gv,vM,bF,aU,aV,aW, *]
  |((with_reducible refine dG 16 ?_);refine kR hF hro hown (rfl) ?_)
  |((with_reducible refine aO ?_);refine bM (by decide+kernel) ?_)
  |((with_reducible refine dP ?_ ?_);· decide+kernel)
  |((with_reducible refine aS 15 ?_);refine PC.useZ hF (lT s hs) (rfl) fun v hv=>?_;subst hv))
 refine aS 20 ?_
 (refine iI hF hro mix names 2 (fn:=Tryz.f20) Tryz.func20 rfl ?_;simp only[Tryz.ntmps20,Tryz.results20,aJ,Nat.reduceAdd,Nat.reduceSub])
 have hcell:=aO7 s (.int .i64 1) o.part o.bar o.voice o.at_ (.int .i64 o.count:: .sl 9 (o.events.map Ev.av) .none:: .sl 14 (o.bars.map Ba.av) .none:: .sl 1 (o.cells.map dM) .none:: .sl 1 (o.dyns.map dV) .none:: .int .i64 o.steps:: .int .i64 o.halves:: .str o.text::rC) (aZ (jG 22 (s.parts.getD 0 pa0).cells 0) (s.parts.getD 0 pa0).cells.length) (aZ (lC 21 s.parts 0) s.parts.length) h1
 repeat' (first
  |simp -implicitDefEqProofs only[↓reduceIte,aA,aC,facts,Nat.reduceAdd,Nat.reduceEqDiff,Nat.reduceLeDiff,Int.reduceBNe,List.flatMap_cons,List.flatMap_nil,AV.cells,Option.map_none,AV.one,bF,aU,pG,aV,dB,aW, *]
  |((with_reducible refine dG 47 ?_);refine gV [28,20,21] _ hcell (qF ⟨⟨rfl,rfl⟩,⟨rfl,rfl⟩,⟨rfl,rfl⟩,trivial⟩) ?_)
  |((with_reducible refine aO ?_);refine bM (by decide+kernel) ?_)
  |((with_reducible refine dP ?_ ?_);· decide+kernel))
 all_goals rfl
theorem aPa (s:Sc) (o:aH) (hk:o.kind=1) (hs:s.small) (hg:s.good) (hchk:s.checkR.2=0) (h0:0<=o.part/\o.part< (s.parts.length:Nat)) (h1: ¬(0<=o.bar/\o.bar< (s.bars.length:Nat))):PC Tryz.prog gl 9 [s.av,o.av] (fun v=>v=errR 90):=by
 have hb0:0< (s.parts.getD 0 pa0).cells.length:=by
  rw[List.getD_eq_getElem?_getD,List.getElem?_eq_getElem hg.lo];exact(hg.pa _ (List.getElem_mem hg.lo)).lo
 have hv0:0< ((s.parts.getD 0 pa0).cells.getD 0 []).length:=by
  have hp:(s.parts.getD 0 pa0).good:=by
   rw[List.getD_eq_getElem?_getD,List.getElem?_eq_getElem hg.lo];exact hg.pa _ (List.getElem_mem hg.lo)
  rw[List.getD_eq_getElem?_getD (l:=(s.parts.getD 0 pa0).cells),List.getElem?_eq_getElem hb0];exact(hp.ce _ (List.getElem_mem hb0)).lo
 have hown:=uT s hg 0 0 0 hg.lo hb0 hv0
 (refine PC.introZ 2 mix (fn:=Tryz.f9) Tryz.func9 rfl (names 9 _ Tryz.func9) fun F hF hro W=>?_;simp only[Tryz.ntmps9,Tryz.results9,aJ,Nat.reduceAdd,Nat.reduceSub])
 repeat' (first
  |simp -implicitDefEqProofs only[↓reduceIte,aA,aC,facts,Nat.reduceAdd,Nat.reduceEqDiff,Nat.reduceLeDiff,Int.reduceBEq,Int.reduceBNe,nS,wW,wX,uH,rE,yV,AV.cells,AV.one,aH.av,Sc.av,pR,qV,hk,hchk,zC,eX,fH,aK,aN,gB,vT,yD,Gv,vM,bF,aU,aV,aW, *]
  |((with_reducible refine dG 16 ?_);refine kR hF hro hown (rfl) ?_)
  |((with_reducible refine aO ?_);refine bM (by decide+kernel) ?_)
  |((with_reducible refine dP ?_ ?_);· decide+kernel)
  |((with_reducible refine aS 15 ?_);refine PC.useZ hF (lT s hs) (rfl) fun v hv=>?_;subst hv))
 refine aS 20 ?_
 (refine iI hF hro mix names 2 (fn:=Tryz.f20) Tryz.func20 rfl ?_;simp only[Tryz.ntmps20,Tryz.results20,aJ,Nat.reduceAdd,Nat.reduceSub])
 have hcell:=aO8 s (.int .i64 1) o.part o.bar o.voice o.at_ (.int .i64 o.count:: .sl 9 (o.events.map Ev.av) .none:: .sl 14 (o.bars.map Ba.av) .none:: .sl 1 (o.cells.map dM) .none:: .sl 1 (o.dyns.map dV) .none:: .int .i64 o.steps:: .int .i64 o.halves:: .str o.text::rC) (aZ (jG 22 (s.parts.getD 0 pa0).cells 0) (s.parts.getD 0 pa0).cells.length) (aZ (lC 21 s.parts 0) s.parts.length) h0 h1
 repeat' (first
  |simp -implicitDefEqProofs only[↓reduceIte,aA,aC,facts,Nat.reduceAdd,Nat.reduceEqDiff,Nat.reduceLeDiff,Int.reduceBNe,List.flatMap_cons,List.flatMap_nil,AV.cells,Option.map_none,AV.one,bF,aU,pG,aV,dB,aW, *]
  |((with_reducible refine dG 47 ?_);refine gV [28,20,21] _ hcell (qF ⟨⟨rfl,rfl⟩,⟨rfl,rfl⟩,⟨rfl,rfl⟩,trivial⟩) ?_)
  |((with_reducible refine aO ?_);refine bM (by decide+kernel) ?_)
  |((with_reducible refine dP ?_ ?_);· decide+kernel))
 all_goals rfl
theorem aPb (s:Sc) (o:aH) (hk:o.kind=1) (hs:s.small) (hg:s.good) (hchk:s.checkR.2=0) (j0 b0:Nat) (hj:j0<s.parts.length) (hbb:b0<s.bars.length) (hb0:b0< (s.parts.getD j0 pa0).cells.length) (hp:o.part=(j0:Nat)) (hq:o.bar=(b0:Nat)) (h1: ¬(0<=o.voice/\o.voice< (((s.parts.getD j0 pa0).cells.getD b0 []).length:Nat))):PC Tryz.prog gl 9 [s.av,o.av] (fun v=>v=errR 90):=by
 have hv0:0< ((s.parts.getD j0 pa0).cells.getD b0 []).length:=by
  have hp:(s.parts.getD j0 pa0).good:=by
   rw[List.getD_eq_getElem?_getD,List.getElem?_eq_getElem hj];exact hg.pa _ (List.getElem_mem hj)
  rw[List.getD_eq_getElem?_getD (l:=(s.parts.getD j0 pa0).cells),List.getElem?_eq_getElem hb0];exact(hp.ce _ (List.getElem_mem hb0)).lo
 have hown:=uT s hg j0 b0 0 hj hb0 hv0
 (refine PC.introZ 2 mix (fn:=Tryz.f9) Tryz.func9 rfl (names 9 _ Tryz.func9) fun F hF hro W=>?_;simp only[Tryz.ntmps9,Tryz.results9,aJ,Nat.reduceAdd,Nat.reduceSub])
 repeat' (first
  |simp -implicitDefEqProofs only[↓reduceIte,aA,aC,facts,Nat.reduceAdd,Nat.reduceEqDiff,Nat.reduceLeDiff,Int.reduceBEq,Int.reduceBNe,nS,wW,wX,uH,rE,yV,AV.cells,AV.one,aH.av,Sc.av,pR,qV,hk,hchk,zC,eX,fH,aK,aN,gB,vT,yD,Gv,vM,bF,aU,aV,aW, *]
  |((with_reducible refine dG 16 ?_);refine kR hF hro hown (rfl) ?_)
  |((with_reducible refine aO ?_);refine bM (by decide+kernel) ?_)
  |((with_reducible refine dP ?_ ?_);· decide+kernel)
  |((with_reducible refine aS 15 ?_);refine PC.useZ hF (lT s hs) (rfl) fun v hv=>?_;subst hv))
 refine aS 20 ?_
 (refine iI hF hro mix names 2 (fn:=Tryz.f20) Tryz.func20 rfl ?_;simp only[Tryz.ntmps20,Tryz.results20,aJ,Nat.reduceAdd,Nat.reduceSub])
 have hcell:=Gh s (.int .i64 1) o.voice o.at_ j0 (.int .i64 o.count:: .sl 9 (o.events.map Ev.av) .none:: .sl 14 (o.bars.map Ba.av) .none:: .sl 1 (o.cells.map dM) .none:: .sl 1 (o.dyns.map dV) .none:: .int .i64 o.steps:: .int .i64 o.halves:: .str o.text::rC) (aZ (jG 22 (s.parts.getD j0 pa0).cells b0) (s.parts.getD j0 pa0).cells.length) b0 hj hbb hb0
 have hq1:(aZ (jG 22 (s.parts.getD j0 pa0).cells b0) (s.parts.getD j0 pa0).cells.length).length=(s.parts.getD j0 pa0).cells.length:=by rw[iG (k:=1) (fun _=>rfl),Nat.mul_one]
 have hq2:(List.drop b0 (aZ (jG 22 (s.parts.getD j0 pa0).cells b0) (s.parts.getD j0 pa0).cells.length)).head?=some (.msl 22 0 ((s.parts.getD j0 pa0).cells.getD b0 []).length 1):=by
  have:=qA (c:=jG 22 (s.parts.getD j0 pa0).cells b0) (k:=1) (fun _=>rfl) hb0 (i:=0) (by omega)
  rw[Nat.mul_one,Nat.add_zero] at this
  rw[this];simp [jG]
 have k1:b0<=(s.parts.getD j0 pa0).cells.length:=by omega
 have k2:1<=(s.parts.getD j0 pa0).cells.length - b0:=by omega
 repeat' (first
  |simp -implicitDefEqProofs only[↓reduceIte,aA,aC,facts,Nat.reduceAdd,Nat.reduceEqDiff,Nat.reduceLeDiff,Int.reduceBNe,List.flatMap_cons,List.flatMap_nil,AV.cells,AV.one,List.length_drop,bF,aU,aV,dB,aW, *]
  |((with_reducible refine dG 48 ?_);refine bW (tH _ _ h1) (rfl) ?_)
  |((with_reducible refine dG 47 ?_);refine gV [28,20,21] _ hcell (qF ⟨⟨rfl,rfl⟩,⟨rfl,rfl⟩,⟨rfl,rfl⟩,trivial⟩) ?_)
  |((with_reducible refine aO ?_);refine bM (by decide+kernel) ?_)
  |((with_reducible refine dP ?_ ?_);· decide+kernel))
 all_goals rfl
theorem aPc (s:Sc) (o:aH) (hk:o.kind=1) (hs:s.small) (hg:s.good) (hchk:s.checkR.2=0) (j0 b0 v0:Nat) (hj:j0<s.parts.length) (hbb:b0<s.bars.length) (hb0:b0< (s.parts.getD j0 pa0).cells.length) (hv0:v0< ((s.parts.getD j0 pa0).cells.getD b0 []).length) (hp:o.part=(j0:Nat)) (hq:o.bar=(b0:Nat)) (hv:o.voice=(v0:Nat)) (h1: ¬(0<=o.at_/\0<=o.count/\o.at_<=((((s.parts.getD j0 pa0).cells.getD b0 []).getD v0 ⟨[]⟩).l.length:Nat)/\o.count<=((((s.parts.getD j0 pa0).cells.getD b0 []).getD v0 ⟨[]⟩).l.length:Nat) - o.at_)) (hll:(((s.parts.getD j0 pa0).cells.getD b0 []).getD v0 ⟨[]⟩).l.length<=1000000) (hat: -9223372036854775808<=o.at_/\o.at_<=9223372036854775807):PC Tryz.prog gl 9 [s.av,o.av] (fun v=>v=errR 90):=by
 have hown:=uT s hg j0 b0 v0 hj hb0 hv0
 (refine PC.introZ 2 mix (fn:=Tryz.f9) Tryz.func9 rfl (names 9 _ Tryz.func9) fun F hF hro W=>?_;simp only[Tryz.ntmps9,Tryz.results9,aJ,Nat.reduceAdd,Nat.reduceSub])
 repeat' (first
  |simp -implicitDefEqProofs only[↓reduceIte,aA,aC,facts,Nat.reduceAdd,Nat.reduceEqDiff,Nat.reduceLeDiff,Int.reduceBEq,Int.reduceBNe,nS,wW,wX,uH,rE,yV,AV.cells,AV.one,aH.av,Sc.av,pR,qV,hk,hchk,zC,eX,fH,aK,aN,gB,vT,yD,Gv,vM,bF,aU,aV,aW, *]
  |((with_reducible refine dG 16 ?_);refine kR hF hro hown (rfl) ?_)
  |((with_reducible refine aO ?_);refine bM (by decide+kernel) ?_)
  |((with_reducible refine dP ?_ ?_);· decide+kernel)
  |((with_reducible refine aS 15 ?_);refine PC.useZ hF (lT s hs) (rfl) fun v hv=>?_;subst hv))
 refine aS 20 ?_
 (refine iI hF hro mix names 2 (fn:=Tryz.f20) Tryz.func20 rfl ?_;simp only[Tryz.ntmps20,Tryz.results20,aJ,Nat.reduceAdd,Nat.reduceSub])
 have hcell:=Gh s (.int .i64 1) (v0:Nat) o.at_ j0 (.int .i64 o.count:: .sl 9 (o.events.map Ev.av) .none:: .sl 14 (o.bars.map Ba.av) .none:: .sl 1 (o.cells.map dM) .none:: .sl 1 (o.dyns.map dV) .none:: .int .i64 o.steps:: .int .i64 o.halves:: .str o.text::rC) (aZ (jG 22 (s.parts.getD j0 pa0).cells b0) (s.parts.getD j0 pa0).cells.length) b0 hj hbb hb0
 have hq1:(aZ (jG 22 (s.parts.getD j0 pa0).cells b0) (s.parts.getD j0 pa0).cells.length).length=(s.parts.getD j0 pa0).cells.length:=by rw[iG (k:=1) (fun _=>rfl),Nat.mul_one]
 have hq2:(List.drop b0 (aZ (jG 22 (s.parts.getD j0 pa0).cells b0) (s.parts.getD j0 pa0).cells.length)).head?=some (.msl 22 0 ((s.parts.getD j0 pa0).cells.getD b0 []).length 1):=by
  have:=qA (c:=jG 22 (s.parts.getD j0 pa0).cells b0) (k:=1) (fun _=>rfl) hb0 (i:=0) (by omega)
  rw[Nat.mul_one,Nat.add_zero] at this
  rw[this];simp [jG]
 have k1:b0<=(s.parts.getD j0 pa0).cells.length:=by omega
 have k2:1<=(s.parts.getD j0 pa0).cells.length - b0:=by omega
 have hv1:(aZ (jU 23 ((s.parts.getD j0 pa0).cells.getD b0 []) v0) ((s.parts.getD j0 pa0).cells.getD b0 []).length).length=((s.parts.getD j0 pa0).cells.getD b0 []).length:=by rw[iG (k:=1) (fun _=>rfl),Nat.mul_one]
 have hv2:(List.drop v0 (aZ (jU 23 ((s.parts.getD j0 pa0).cells.getD b0 []) v0) ((s.parts.getD j0 pa0).cells.getD b0 []).length)).head?=some (.msl 23 0 (((s.parts.getD j0 pa0).cells.getD b0 []).getD v0 ⟨[]⟩).l.length 9):=by
  have:=qA (c:=jU 23 ((s.parts.getD j0 pa0).cells.getD b0 []) v0) (k:=1) (fun _=>rfl) hv0 (i:=0) (by omega)
  rw[Nat.mul_one,Nat.add_zero] at this
  rw[this];simp [jU]
 have k3:v0<=((s.parts.getD j0 pa0).cells.getD b0 []).length:=by omega
 have k4:1<=((s.parts.getD j0 pa0).cells.getD b0 []).length - v0:=by omega
 have k5:((v0:Nat):Int)< ((((s.parts.getD j0 pa0).cells.getD b0 []).length:Nat):Int):=by omega
 repeat' (first
  |simp -implicitDefEqProofs only[↓reduceIte,aA,aC,facts,Nat.reduceAdd,Nat.reduceEqDiff,Nat.reduceLeDiff,Int.reduceBNe,List.flatMap_cons,List.flatMap_nil,AV.cells,AV.one,List.length_drop,Int.natCast_nonneg,bF,aU,aV,dB,aW, *]
  |((with_reducible refine dG 48 ?_);refine bW (iF _ _ (by omega)) (rfl) ?_)
  |((with_reducible refine dG 49 ?_);refine bW (aO6 _ _ _ hat (by omega) h1) (rfl) ?_)
  |((with_reducible refine dG 47 ?_);refine gV [28,20,21] _ hcell (qF ⟨⟨rfl,rfl⟩,⟨rfl,rfl⟩,⟨rfl,rfl⟩,trivial⟩) ?_)
  |((with_reducible refine aO ?_);refine bM (by decide+kernel) ?_)
  |((with_reducible refine dP ?_ ?_);· decide+kernel))
 all_goals rfl
end Go.Proofs.Pv
