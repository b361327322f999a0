/-
Layer 9's edits: what a heap with all lists open tells.
Conditions: none but those that each statement names.
-/
import Derived.Test.YtoaofjhadfihjaaGreatDoorC11a
import Derived.Test.YtoaofjhadfihjaaGreatDoorC09k
set_option linter.unusedVariables false
set_option linter.unusedSimpArgs false
set_option maxRecDepth 100000
set_option maxHeartbeats 16000000
namespace Go.Proofs.Pv
open Go Go.Proofs
variable {Φ:oH}
def Ze (hp:Hp) (kc kd:Nat) (p:Pa):Prop:= ∃E D,hp kc=some (.cells E)/\E.map (AV.nowS uX hp 3)=p.cells.map bU/\hp kd=some (.cells D)/\D.map (AV.nowS uX hp 3)=p.dyns.map eP
theorem Vm {sty:Nat->Bool} {hp:Hp} {d k n:Nat} {α:Type} {g:α->AV} (l:List α) {E:List AV} (hk:hp k=some (.cells E)) (h1:sty k=false) (hE:E.map (AV.nowS sty hp d)=l.map g) (hn:n=l.length) (hg: ∀x,(g x).pure=true):AV.nowS sty hp (d+1) (.msl k 0 n 1)= .sl 1 (l.map g) .none:=by
 subst hn
 have hlen:E.length=l.length:=by have:=congrArg List.length hE;simpa using this
 refine(pG hk (by decide) hE (by omega) (by rw[List.all_eq_true];intro x hx;obtain⟨y,_,rfl⟩:=List.mem_map.1 hx;exact hg y)).trans ?_
 rw[h1,Bool.or_false,show(!(Nat.beq 1 1))=false from rfl,zD l]
theorem aCg {hp:Hp}: ∀(R:Nat) (ps:List Pa),R+2*ps.length<=1000->(∀j (h:j<ps.length),Ze hp (R+2*j) (R+2*j+1) ps[j])->(cZ R ps).map (AV.nowS uX hp 4)=ps.flatMap Pa.cells5
 |R,[],_,_=>rfl
 | R,p::ps,hR,h=>by
  simp only[List.length_cons] at hR
  have h0:=h 0 (by simp)
  obtain⟨E,D,g1,g2,g3,g4⟩:=h0
  simp only[Nat.mul_zero,Nat.add_zero,List.getElem_cons_zero] at g1 g2 g3 g4
  have ih:=aCg (R+2) ps (by omega) fun j hj=>by
   have:=h (j+1) (by simp only[List.length_cons];omega)
   rw[show R+2*(j+1)=R+2+2*j by omega] at this
   simpa using this
  simp only[cZ,List.map_cons,ih,List.flatMap_cons,Pa.cells5,List.cons_append,List.nil_append]
  rw[Vm p.cells g1 (decide_eq_false (by omega)) g2 rfl (fun _=>rfl),Vm p.dyns g3 (decide_eq_false (by omega)) g4 rfl (fun _=>rfl)]
  rfl
theorem scGX {sty:Nat->Bool} {hp:Hp} {kb kp nb np:Nat} (s:Sc) {X:List AV} (hb:hp kb=some (.cells (s.bars.flatMap Ba.cells))) (hp1:hp kp=some (.cells X)) (hX:X.map (AV.nowS sty hp 4)=s.parts.flatMap Pa.cells5) (hl:X.length=s.parts.length*5) (hn:nb=s.bars.length) (hm:np=s.parts.length):
  AV.nowS sty hp 6 (.agg [.str s.title,.msl kb 0 nb 14,.msl kp 0 np 5])=s.av:=by
 subst hn hm
 have e:AV.nowS sty hp 6 (.agg [.str s.title,.msl kb 0 s.bars.length 14,.msl kp 0 s.parts.length 5])= .agg [.str s.title,AV.nowS sty hp 5 (.msl kb 0 s.bars.length 14),AV.nowS sty hp 5 (.msl kp 0 s.parts.length 5)]:=rfl
 have e1:AV.nowS sty hp 5 (.msl kb 0 s.bars.length 14)= .sl 14 (s.bars.map Ba.av) .none:=by
  refine(pG hb (by decide) (lT (c:=Ba.cells) (fun _=>rfl) _) (by rw[flat_length (k:=14) (fun _=>rfl)];omega) (kX (fun _=>rfl) _)).trans ?_
  rw[show(!(Nat.beq 14 1)||sty kb)=true from rfl,lH (c:=Ba.cells) (k:=14) (fun _=>rfl) s.bars]
  rfl
 have e2:AV.nowS sty hp 5 (.msl kp 0 s.parts.length 5)= .sl 5 (s.parts.map Pa.av) .none:=by
  refine(pG hp1 (by decide) hX (by omega) (kX (fun _=>rfl) _)).trans ?_
  rw[show(!(Nat.beq 5 1)||sty kp)=true from rfl,lH (c:=Pa.cells5) (k:=5) (fun _=>rfl) s.parts]
  rfl
 rw[e,e1,e2];rfl
theorem scG {hp:Hp} {kb kp R nb np:Nat} (s:Sc) (hb:hp kb=some (.cells (s.bars.flatMap Ba.cells))) (hp1:hp kp=some (.cells (cZ R s.parts))) (hR:R+2*s.parts.length<=1000) (h: ∀j (hj:j<s.parts.length),Ze hp (R+2*j) (R+2*j+1) s.parts[j]) (hn:nb=s.bars.length) (hm:np=s.parts.length):
 AV.nowS uX hp 6 (.agg [.str s.title,.msl kb 0 nb 14,.msl kp 0 np 5])=s.av:=scGX s hb hp1 (aCg R s.parts hR h) (kW _ _) hn hm
def eQ (Φ:oH) (ps:List Pa) (j:Nat):Nat:=fM Φ (ps.take j)
theorem Bv {p:Pa} {ps:List Pa} {j:Nat}:eQ Φ (p::ps) (j+1)=cnt Φ p.cells+eQ Φ ps j:=rfl
theorem Sm: ∀(D:Nat) (ps:List Pa) (j:Nat) (h:j<ps.length),(iV Φ D ps)[2*j]?=some (eH Φ (D+eQ Φ ps j) ps[j].cells)/\(iV Φ D ps)[2*j+1]?=some (ps[j].dyns.flatMap fP)
 |D,[],j,h=>by simp at h
 |D,p::ps,0,h=>⟨rfl,rfl⟩
 |D,p::ps,j+1,h=>by
  have:=Sm (D+cnt Φ p.cells) ps j (by simpa using h)
  rw[Bv,show D+(cnt Φ p.cells+eQ Φ ps j)=D+cnt Φ p.cells+eQ Φ ps j by omega,show 2*(j+1)=2*j+1+1 by omega,show 2*j+1+1+1=2*j+1+1+1 from rfl]
  simpa [iV] using this
theorem vZ {hp:Hp}: ∀(D:Nat) (ps:List Pa) (j:Nat) (h:j<ps.length),jJ hp D (deep Φ D ps)->jJ hp (D+eQ Φ ps j) (csB Φ (D+eQ Φ ps j) ps[j].cells)
 |D,[],j,h,_=>by simp at h
 |D,p::ps,0,h,hb=>hb.left
 |D,p::ps,j+1,h,hb=>by
  have hr:=hb.right
  rw[kM] at hr
  have:=vZ (D+cnt Φ p.cells) ps j (by simpa using h) hr
  rw[Bv,show D+(cnt Φ p.cells+eQ Φ ps j)=D+cnt Φ p.cells+eQ Φ ps j by omega]
  simpa using this
structure rC (Φ:oH) (hp:Hp) (R D:Nat) (ps:List Pa):Prop where
 row: ∀j (h:j<ps.length),hp (R+2*j)=some (.cells (eH Φ (D+eQ Φ ps j) ps[j].cells))
 dyn: ∀j (h:j<ps.length),hp (R+2*j+1)=some (.cells (ps[j].dyns.flatMap fP))
 dp:jJ hp D (deep Φ D ps)
theorem rC.of {hp:Hp} {R D:Nat} {ps:List Pa} (h1:jJ hp R (iV Φ D ps)) (h2:jJ hp D (deep Φ D ps)):rC Φ hp R D ps:=by
 refine⟨fun j hj=>?_,fun j hj=>?_,h2⟩
 ·have h3:=h1 (2*j) (by rw[iQ];omega)
  have h4:=(Sm (Φ:=Φ) D ps j hj).1
  rw[List.getElem?_eq_getElem (by rw[iQ];omega),Option.some.injEq] at h4
  rw[h4] at h3;exact h3
 ·have h3:=h1 (2*j+1) (by rw[iQ];omega)
  have h4:=(Sm (Φ:=Φ) D ps j hj).2
  rw[List.getElem?_eq_getElem (by rw[iQ];omega),Option.some.injEq] at h4
  rw[h4] at h3;exact h3
theorem rC.pa {hp:Hp} {R D:Nat} {ps:List Pa} (t:rC Φ hp R D ps) (hD:1000<=D) (j:Nat) (h:j<ps.length):Ze hp (R+2*j) (R+2*j+1) ps[j]:=by
 refine⟨_,_,t.row j h,zA (d:=1) _ _ (by omega) (vZ D ps j h t.dp),t.dyn j h,?_⟩
 rw[lT (c:=fP) (fun _=>rfl)]
 exact nV (c:=eP) _
theorem rC.mono {hp hp':Hp} {R D:Nat} {ps:List Pa} (t:rC Φ hp R D ps) (hm: ∀k b,hp k=some b->hp' k=some b):rC Φ hp' R D ps:=
 ⟨fun j h=>hm _ _ (t.row j h),fun j h=>hm _ _ (t.dyn j h),fun q hq=>hm _ _ (t.dp q hq)⟩
end Go.Proofs.Pv
namespace Go.Proofs.Pv
open Go Go.Proofs
variable {Φ:oH}
theorem Yu {n:Nat} {a:ByteArray} {j p l t k o m s:Nat}:AV.ren (up n) (.agg [.str a,.msl j p l t,.msl k o m s])= .agg [.str a,.msl (j+n) p l t,.msl (k+n) o m s]:=rfl
def eG:List AV:=[.int .i64 0,.int .i64 0,.int .i64 0,.int .i64 0,.int .i64 0,.int .i64 0,.sl 9 [] .full,.sl 14 [] .full,.sl 1 [] .full,.sl 1 [] .full,.int .i64 0,.int .i64 0,.str ⟨#[]⟩]
def eU (s:Sc) (o:aH):List (Nat×aI):=[(9,.cells [.int .i64 s.checkR.1.1,.int .i64 s.checkR.1.2.1,.int .i64 s.checkR.1.2.2.1,.int .i64 s.checkR.1.2.2.2]),(3,.cells eG),(2,.cells [.str ⟨#[]⟩,.sl 14 [] .full,.sl 5 [] .full]),(1,.cells o.cells13),(0,.cells [.str s.title,.sl 14 (s.bars.map Ba.av) .none,.sl 5 (s.parts.map Pa.av) .none])]
def lU (Φ:oH) (s:Sc):List (Nat×aI):=hC (hup 20 (scT Φ s))
def iD (Φ:oH) (s:Sc) (o:aH):List (Nat×aI):=(2000024,.cells (.str s.title:: .msl 21 0 s.bars.length 14:: .msl 20 0 s.parts.length 5::(o.cells13++eG)))::(20,.cells (cZ 22 s.parts))::(21,.cells (s.bars.flatMap Ba.cells))::(eU s o++lU Φ s)
def aJh (o:aH) (R:AV->Prop) (S B:List AV) (kb:Int) (Z:List (Nat×aI)):Prop:=
 (∀k b,hget Z k=some b->10<=k/\k≠2000024/\k<9000000)/\(∀x∈S++B,x.one=true)/\ ∃sty:Nat->Bool,∃s':Sc,s'.small/\ ∃b':List AV,(∀hp:Hp,(∀k b,hget Z k=some b->hp k=some b)->AV.nowS sty hp 6 (.agg S)=s'.av/\B.map (AV.nowS sty hp 5)=b')/\
  (s'.checkR.2≠0->R (errR s'.checkR.2))/\(s'.checkR.2=0->R (.tup [s'.av,.agg (.int .i64 (if kb=0 then o.kind else kb)::b'),.int .i64 0]))
def MK (s:Sc) (o:aH) (R:AV->Prop):AV->St->Prop:=fun u su=> ∃e:Int,u= .int .i64 e/\((e≠0/\Sub su ⟨eU s o,9000000⟩/\R (errR e))\/
 (e=0/\ ∃(S0 S1 S2:AV) (kb:Int) (b1 b2 b3 b4 b5 b6 b7 b8 b9 b10 b11 b12:AV) (Z:List (Nat×aI)),Sub su ⟨(2000024,.cells (S0::S1::S2::(o.cells13++[.int .i64 kb,b1,b2,b3,b4,b5,b6,b7,b8,b9,b10,b11,b12])))::(eU s o++Z),9000000⟩/\aJh o R [S0,S1,S2] [b1,b2,b3,b4,b5,b6,b7,b8,b9,b10,b11,b12] kb Z))
def meth:Nat->FuncId
 |1=>18
 |2=>19
 |3=>20
 |4=>21
 |5=>22
 |6=>23
 |7=>24
 |8=>25
 |_=>26
theorem sQ (s:Sc) (hg:s.goodU Φ):iI 22 1000000 (lU Φ s):=by
 have h1:=hg.hi
 have h2:=hg.n
 rw[lU,scT,Gi,tY,nX,nX,Cc,Md]
 exact iI.app ((iI.fam (m:=1000000) (by rw[iQ];omega)).wide (by omega) (Nat.le_refl _)) ((iI.fam (m:=1000000) (by rw[rY];omega)).wide (by omega) (Nat.le_refl _))
theorem gY: ∀ {Z:List (Nat×aI)} {k:Nat},hget Z k=none->hdel Z k=Z
 |[],k,_=>rfl
 | (q,b)::r,k,h=>by
  simp only[hget] at h
  split at h
  ·cases h
  ·rename_i hne
   simp only[hdel,if_neg hne,gY h]
theorem aP.mono' {P:Program} {G:Nat->Option (List AV)} {F:Fence} {W:World} {f:FuncId} {args:List AV} {K K':AV->St->Prop} {st:St} (h:aP F P G W f args K st) (hk: ∀v st,K v st->K' v st):aP F P G W f args K' st:=by
 intro M w vs inv hargs
 obtain⟨h1,h2⟩:=h M w vs inv hargs
 refine⟨h1,fun n=>(h2 n).mono ?_⟩
 rintro e w' ⟨M',v,av,st',k1,k2,k3,k4,k5⟩
 exact⟨M',v,av,st',k1,k2,k3,k4,hk _ _ k5⟩
theorem aB {A B:List (Nat×aI)} {k0:Nat} {b0:aI} (h0:hget B k0=some b0) (h: ∀k b,hget A k=some b->hget B k=some b): ∀k b,hget ((k0,b0)::A) k=some b->hget B k=some b:=by
 intro k b hk
 simp only[hget] at hk
 split at hk
 ·rename_i e
  subst e
  rw[h0];exact hk
 ·exact h k b hk
theorem iI.mem {n m:Nat} {Z:List (Nat×aI)} (t:iI n m Z) {k:Nat} {b:aI} (h:hget Z k=some b):n<=k/\k<m:=by
 refine⟨?_,?_⟩
 ·apply Classical.byContradiction
  intro hn
  rw[t.lo k (by omega)] at h;cases h
 ·apply Classical.byContradiction
  intro hn
  rw[t.hi k (by omega)] at h;cases h
theorem jC (s:Sc) (o:aH) (n:Nat) (kk:Int) (hn:(n,kk)∈([(1,1),(2,2),(3,3),(4,4),(5,5),(6,6),(7,7),(8,8),(9,9)]:List (Nat×Int))) (hk':o.kind=kk) (hs:s.small) (hg:s.goodU Φ) (hchk:s.checkR.2=0) (R:AV->Prop)
    (hm: ∀F,Free F->F.round=none-> ∀W,aP F Tryz.prog gl W (meth n) [.ptr 2000024 0] (MK s o R) ⟨iD Φ s o,2000068⟩):PC Tryz.prog gl 7 [s.av,o.av] R:=by
  have hown:=aI2 s hg
  have hT:=sQ s hg
  have z1:=gY (hT.lo 15 (by omega))
  have z2:=gY (hT.lo 18 (by omega))
  have z3:=gY (hT.hi 2000021 (by omega))
  have hhi:=hg.hi
  rw[scC] at hown
  obtain⟨Z,hZ⟩: ∃Z,lU Φ s=Z:=⟨_,rfl⟩
  have hZ':hC (hup 20 (scT Φ s))=Z:=hZ
  rw[hZ] at z1 z2 z3 hT
  simp only[List.mem_cons,List.not_mem_nil,or_false,Prod.mk.injEq] at hn
  rcases hn with⟨rfl,rfl⟩|⟨rfl,rfl⟩|⟨rfl,rfl⟩|⟨rfl,rfl⟩|⟨rfl,rfl⟩|⟨rfl,rfl⟩|⟨rfl,rfl⟩|⟨rfl,rfl⟩|⟨rfl,rfl⟩
  all_goals
    (refine PC.introT 2 mix names (fn:=Tryz.f7) Tryz.func7 rfl fun F hF hro W=>?_;simp only[Tryz.ntmps7,Tryz.results7,aJ,Nat.reduceAdd,Nat.reduceSub])
    repeat' (first
    |simp -implicitDefEqProofs (maxSteps:=9999999) only[↓reduceIte,aA,aC,facts,Nat.reduceAdd,Nat.reduceEqDiff,Nat.reduceLeDiff,Int.reduceBEq,Int.reduceBNe,nP,wR,wS,uB,rD,yQ,AV.cells,AV.one,aH.av,Sc.av,pM,qU,hk',hchk,fV,eF,Yu,Ya,nT,eX,aK,bF,aU,aV,dA,aW, *]
    |((with_reducible refine dG 17 ?_);refine kQ hF hro hown (rfl) ?_)
    |((with_reducible refine aO ?_);refine bM (by decide+kernel) ?_)
    |((with_reducible refine dP ?_ ?_);· decide+kernel)
    |((with_reducible refine aS 16 ?_);refine PC.useZ hF (lQ s hs) (rfl) fun v hv=>?_;subst hv))
    refine nG (aP.pre (st':=⟨iD Φ s o,2000068⟩) ⟨Nat.le_refl _,?_⟩ (aP.post (aP.mono' (hm F hF hro W) fun u su hu=>?_)))
    · have e1:aH.cells13 o=[.int .i64 o.kind,.int .i64 o.part,.int .i64 o.bar,.int .i64 o.voice,.int .i64 o.at_,.int .i64 o.count,.sl 9 (o.events.map Ev.av) .none,.sl 14 (o.bars.map Ba.av) .none,.sl 1 (o.cells.map dM) .none,.sl 1 (o.dyns.map dV) .none,.int .i64 o.steps,.int .i64 o.halves,.str o.text]:=rfl
      show∀k b,hget (iD Φ s o) k=some b->hget _ k=some b
      rw[iD,eU,hZ,e1,hk',eG]
      refine aB (by simp [hget]) (aB (by simp [hget]) (aB (by simp [hget]) (aB (by simp [hget]) (aB (by simp [hget]) (aB (by simp [hget]) (aB (by simp [hget]) (aB (by simp [hget]) fun k b h=>?_)))))))
      obtain⟨m1,m2⟩:=hT.mem h
      repeat rw[bD (by omega)]
      exact h
    · obtain⟨e,rfl,hcase⟩:=hu
      rcases hcase with⟨he,hsub,hR⟩|⟨rfl,S0,S1,S2,kb,b1,b2,b3,b4,b5,b6,b7,b8,b9,b10,b11,b12,Z',hsub,hZk,hone,sty,s',hs',b',hrd,hR1,hR2⟩
      · have hne:(e !=0)=true:=by simpa using he
        refine⟨⟨eU s o,9000000⟩,hsub,?_⟩
        repeat' (simp -implicitDefEqProofs (maxSteps:=9999999) only[↓reduceIte,aA,aC,facts,Nat.reduceAdd,Nat.reduceEqDiff,Nat.reduceLeDiff,Int.reduceBEq,Int.reduceBNe,eU,eG,zI,bF,aU,aV,dA,aW, *])
        exact⟨_,uX,6,rfl,hR⟩
      · have hext: ∀(l:List (Nat×aI)),(∀x∈l,x.1<10\/x.1=2000024\/9000000<=x.1)-> ∀k b,hget Z' k=some b->hget (l++Z') k=some b:=fun l hl k b h=>by
          have hz:=hZk k b h
          induction l with
          |nil=>exact h
          | cons x l ih=>
            have h1:=hl x (by simp)
            rw[List.cons_append,bD (by omega)]
            exact ih fun y hy=>hl y (by simp [hy])
        simp only[List.cons_append,List.nil_append,List.mem_cons,List.not_mem_nil,or_false,forall_eq_or_imp,forall_eq,AV.one] at hone
        obtain⟨o1,o2,o3,o4,o5,o6,o7,o8,o9,o10,o11,o12,o13,o14,o15⟩:=hone
        by_cases hc:s'.checkR.2=0
        · have hne:(s'.checkR.2 !=0)=false:=by simpa using hc
          by_cases hk0:kb=0
          · subst hk0
            refine⟨_,hsub,?_⟩
            repeat' (first
    |simp -implicitDefEqProofs (maxSteps:=9999999) only[↓reduceIte,aA,aC,facts,Nat.reduceAdd,Nat.reduceEqDiff,Nat.reduceLeDiff,Int.reduceBEq,Int.reduceBNe,eU,eG,zI,aH.cells13,pM,qU,hne,bF,aU,aV,dA,aW, *]
    |((with_reducible refine aO ?_);refine bM (by decide+kernel) ?_)
    |((with_reducible refine dP ?_ ?_);· decide+kernel)
    |((with_reducible refine aS 16 ?_);(refine Uz hF sty 6 (lQ _ hs') (fun v hv=>by subst hv;rfl) (by simp only[List.map_cons,List.map_nil];exact congrArg (fun x=>[x]) (hrd _ (hext [_,_,_,_,_,_] (by simp))).1) (fun v hv=>?_);subst hv)))
            simp only[fV,eF]
            refine⟨_,sty,6,rfl,?_⟩
            obtain⟨r1,r2⟩:=hrd _ (hext [(9000010,_),(2000024,_),(9,_),(3,_),(2,_),(1,_),(0,_)] (by simp))
            have hR3:=hR2 hc
            rw[if_pos rfl,hk'] at hR3
            rw[<-r1,<-r2] at hR3
            exact hR3
          · have hke:(kb==0)=false:=by simpa using hk0
            refine⟨_,hsub,?_⟩
            repeat' (first
    |simp -implicitDefEqProofs (maxSteps:=9999999) only[↓reduceIte,aA,aC,facts,Nat.reduceAdd,Nat.reduceEqDiff,Nat.reduceLeDiff,Int.reduceBEq,Int.reduceBNe,eU,eG,zI,aH.cells13,pM,qU,hne,hke,bF,aU,aV,dA,aW, *]
    |((with_reducible refine aO ?_);refine bM (by decide+kernel) ?_)
    |((with_reducible refine dP ?_ ?_);· decide+kernel)
    | ((with_reducible refine aS 16 ?_);(refine Uz hF sty 6 (lQ _ hs') (fun v hv=>by subst hv;rfl) (by simp only[List.map_cons,List.map_nil];exact congrArg (fun x=>[x]) (hrd _ (hext [_,_,_,_,_,_] (by simp))).1) (fun v hv=>?_);subst hv)))
            simp only[fV,eF]
            refine⟨_,sty,6,rfl,?_⟩
            obtain⟨r1,r2⟩:=hrd _ (hext [(9000010,_),(2000024,_),(9,_),(3,_),(2,_),(1,_),(0,_)] (by simp))
            have hR3:=hR2 hc
            rw[if_neg hk0] at hR3
            rw[<-r1,<-r2] at hR3
            exact hR3
        · have hne:(s'.checkR.2 !=0)=true:=by simpa using hc
          refine⟨_,hsub,?_⟩
          repeat' (first
    |simp -implicitDefEqProofs (maxSteps:=9999999) only[↓reduceIte,aA,aC,facts,Nat.reduceAdd,Nat.reduceEqDiff,Nat.reduceLeDiff,Int.reduceBEq,Int.reduceBNe,eU,eG,zI,aH.cells13,pM,qU,hne,bF,aU,aV,dA,aW, *]
    |((with_reducible refine aS 16 ?_);(refine Uz hF sty 6 (lQ _ hs') (fun v hv=>by subst hv;rfl) (by simp only[List.map_cons,List.map_nil];exact congrArg (fun x=>[x]) (hrd _ (hext [_,_,_,_,_,_] (by simp))).1) (fun v hv=>?_);subst hv)))
          exact⟨_,uX,6,rfl,hR1 hc⟩
end Go.Proofs.Pv
namespace Go.Proofs.Pv
open Go Go.Proofs
variable {Φ:oH}
section
variable {P:Program} {G:Nat->Option (List AV)}
theorem aP.introZ {F:Fence} (hF:Free F) (hro:F.round=none) {W:World} (d:Nat) (hmix:P.follows .mixedOrders=true) (hname: ∀(f:Nat) (fn:Func),P.funcs[f]?=some fn->fn.name≠ "runtime.NumGoroutine") {f:FuncId} {fn:Func} {c:Code} {args:List AV} {K:AV->St->Prop} {st:St} (hf:P.funcs[f]?=some fn) (hb:fn.body=some c)
  (h:fG P G (OZ F P G W true d) c (mO P (OZ F P G W true d) fn.results.toList (fun v st=>(v,st)) K) (uA fn.ntmps args) st):aP F P G W f args K st:=by
 have hpl:F.plain=F:=by cases F;simp only[Fence.plain] at hro ⊢;simp_all
 refine wO (ok:=id) hF hro hname (Jc hmix W d true F hF hpl (fun _=>hro)) (fin:=fun _ _ v st=>(v,st)) (fun _ _ _ _ _ _ _ _ inv hv=>⟨_,Mem.le_refl _,inv,hv⟩) ?_
 unfold Bh
 rw[hf]
 simp only[hb]
 exact h
end
def uU (s':Sc) (b:AV):AV:=if s'.checkR.2=0 then .tup [s'.av,b,.int .i64 0] else errR s'.checkR.2
theorem Xx {o:aH} {s':Sc} {kb:Int} {B b':List AV} {T:List (Nat×aI)} (hT: ∀k b,hget T k=some b->22<=k/\k≠2000024/\k<9000000) (hn:s'.parts.length<=400)
  (hpa: ∀hp:Hp,(∀k b,hget T k=some b->hp k=some b)->(∀j (hj:j<s'.parts.length),Ze hp (22+2*j) (22+2*j+1) s'.parts[j])/\B.map (AV.nowS uX hp 5)=b') (hs:s'.small) (hB: ∀x∈B,x.one=true):
  aJh o (fun v=>v=uU s' (.agg (.int .i64 (if kb=0 then o.kind else kb)::b'))) [.str s'.title,.msl 21 0 s'.bars.length 14,.msl 20 0 s'.parts.length 5] B kb ((20,.cells (cZ 22 s'.parts))::(21,.cells (s'.bars.flatMap Ba.cells))::T):=by
 have hsub: ∀hp:Hp,(∀k b,hget ((20,.cells (cZ 22 s'.parts))::(21,.cells (s'.bars.flatMap Ba.cells))::T) k=some b->hp k=some b)->hp 20=some (.cells (cZ 22 s'.parts))/\hp 21=some (.cells (s'.bars.flatMap Ba.cells))/\ ∀k b,hget T k=some b->hp k=some b:=fun hp h=>by
  refine⟨h 20 _ (by simp [hget]),h 21 _ (by simp [hget]),fun k b hk=>h k b ?_⟩
  have:=hT k b hk
  rw[bD (by omega),bD (by omega)];exact hk
 refine⟨fun k b hk=>?_,fun x hx=>?_,uX,s',hs,b',fun hp h=>?_,fun hc=>by rw[uU,if_neg hc],fun hc=>by rw[uU,if_pos hc]⟩
 ·simp only[hget] at hk
  split at hk
  ·omega
  ·split at hk
   ·omega
   ·have:=hT k b hk
    omega
 ·simp only[List.cons_append,List.nil_append,List.mem_cons] at hx
  rcases hx with rfl|rfl|rfl|hx
  ·rfl
  ·rfl
  ·rfl
  ·exact hB x hx
 ·obtain⟨h1,h2,h3⟩:=hsub hp h
  obtain⟨h4,h5⟩:=hpa hp h3
  exact⟨scG s' h2 h1 (by omega) h4 rfl rfl,h5⟩
theorem yL (s:Sc) (hg:s.goodU Φ):rC Φ (hget (lU Φ s)) 22 1020 s.parts:=by
 have h1:=hg.hi
 rw[lU,scT,Gi,tY,nX,nX,Cc,Md]
 refine rC.of (fun q hq=>?_) fun q hq=>?_
 ·rw[bV,iM hq]
 ·rw[bV,vG (by rw[iQ];omega)];exact iM hq
def Ls (s:Sc) (o:aH):Sc:= {s with title:=o.text}
def Vt (s:Sc):aH:=⟨9,0,0,0,0,0,[],[],[],[],0,0,s.title⟩
theorem aKm (s:Sc) (o:aH) (hk:o.kind=9) (hs:s.small) (hg:s.goodU Φ) {F:Fence} (hF:Free F) (hro:F.round=none) {W:World}:aP F Tryz.prog gl W 26 [.ptr 2000024 0] (MK s o (fun v=>v=uU (Ls s o) (Vt s).av)) ⟨iD Φ s o,2000068⟩:=by
 have hT:=sQ s hg
 have hA:=yL s hg
 rw[iD,eU,eG]
 generalize lU Φ s=T at hT hA ⊢
 (refine aP.introZ hF hro 2 mix names (fn:=Tryz.f26) Tryz.func26 rfl ?_;simp only[Tryz.ntmps26,Tryz.results26,aJ,Nat.reduceAdd,Nat.reduceSub])
 repeat' (simp -implicitDefEqProofs (maxSteps:=9999999) only[↓reduceIte,aA,aC,facts,Nat.reduceAdd,Nat.reduceEqDiff,Nat.reduceLeDiff,AV.cells,AV.one,aH.cells13, *])
 rw[show(Vt s).av=AV.agg (.int .i64 (if(0:Int)=0 then o.kind else 0)::[.int .i64 0,.int .i64 0,.int .i64 0,.int .i64 0,.int .i64 0,.sl 9 [] .none,.sl 14 [] .none,.sl 1 [] .none,.sl 1 [] .none,.int .i64 0,.int .i64 0,.str s.title]) from by rw[if_pos rfl,hk];rfl]
 refine⟨0,rfl,.inr ⟨rfl,.str o.text,.msl 21 0 s.bars.length 14,.msl 20 0 s.parts.length 5,0,.int .i64 0,.int .i64 0,.int .i64 0,.int .i64 0,.int .i64 0,.sl 9 [] .full,.sl 14 [] .full,.sl 1 [] .full,.sl 1 [] .full,.int .i64 0,.int .i64 0,.str s.title,(20,.cells (cZ 22 s.parts))::(21,.cells (s.bars.flatMap Ba.cells))::T,⟨by show 2000090<=9000000;omega,?_⟩,
  Xx (s':=Ls s o) (T:=T) (fun k b h=>by have:=hT.mem h;omega) hg.hi (fun hp h=>⟨fun j hj=>(hA.mono h).pa (by omega) j hj,rfl⟩) ⟨hs.bars,hs.parts,hs.nbars,hs.nparts⟩ (by simp [AV.one])⟩⟩
 simp only[St.hp,eU,eG,aH.cells13,hk,List.cons_append,List.nil_append]
 (refine aB (by simp [hget]) (aB (by simp [hget]) (aB (by simp [hget]) (aB (by simp [hget]) (aB (by simp [hget]) (aB (by simp [hget]) (aB (by simp [hget]) (aB (by simp [hget]) (fun k b h=>?_))))))));have hmm:=hT.mem h;(repeat(first|rw[bD (by omega)]|rw[rZ (by omega)]));exact h)
end Go.Proofs.Pv
namespace Go.Proofs.Pv
open Go Go.Proofs
variable {Φ:oH}
theorem aPb {α:Type} {c:α->List AV} {k:Nat} (h: ∀x,(c x).length=k) (l:List α) (i:Nat) (hi:i<=l.length):List.take (i*k) (l.flatMap c)=(l.take i).flatMap c:=by
 have e:l.flatMap c=(l.take i).flatMap c++(l.drop i).flatMap c:=by rw[<-List.flatMap_append,List.take_append_drop]
 rw[e,List.take_left' (by rw[flat_length h,List.length_take,Nat.min_eq_left hi])]
theorem Uy {α:Type} {c:α->List AV} {k:Nat} (h: ∀x,(c x).length=k) (l:List α) (i:Nat) (hi:i<=l.length):List.drop (i*k) (l.flatMap c)=(l.drop i).flatMap c:=by
 have e:l.flatMap c=(l.take i).flatMap c++(l.drop i).flatMap c:=by rw[<-List.flatMap_append,List.take_append_drop]
 rw[e,List.drop_left' (by rw[flat_length h,List.length_take,Nat.min_eq_left hi])]
theorem Ny {α:Type} {c:α->List AV} {k:Nat} (h: ∀x,(c x).length=k) (l:List α) (i:Nat) (hi:i<l.length):List.take k (List.drop (i*k) (l.flatMap c))=c l[i]:=by
 rw[Uy h l i (by omega),List.drop_eq_getElem_cons hi,List.flatMap_cons,List.take_left' (h _)]
theorem Ij {α:Type} {c:α->List AV} {k:Nat} (h: ∀x,(c x).length=k) (l:List α) (i:Nat) (hi:i<l.length) (y:α):List.take (i*k) (l.flatMap c)++c y++List.drop (i*k+k) (l.flatMap c)=(l.set i y).flatMap c:=by
 rw[aPb h l i (by omega),show i*k+k=(i+1)*k by rw[Nat.add_mul,Nat.one_mul],Uy h l (i+1) hi,List.set_eq_take_append_cons_drop,if_pos hi,List.flatMap_append,List.flatMap_cons,List.append_assoc]
def tX (s:Sc) (b:Nat) (x:Ba):Sc:= {s with bars:=s.bars.set b x}
def aEi (s:Sc) (b:Nat) (hb:b<s.bars.length):aH:=⟨4,0,b,0,0,0,[],[s.bars[b]],[],[],0,0,⟨#[]⟩⟩
theorem aRq (s:Sc) (o:aH) (hk:o.kind=4) (hs:s.small) (hg:s.goodU Φ) (b:Nat) (hb:b<s.bars.length) (hob:o.bar=(b:Nat)) (x:Ba) (hx:o.bars=[x]) (hxs:x.short) (hxo:x.ok) {F:Fence} (hF:Free F) (hro:F.round=none) {W:World}:aP F Tryz.prog gl W 21 [.ptr 2000024 0] (MK s o (fun v=>v=uU (tX s b x) (aEi s b hb).av)) ⟨iD Φ s o,2000068⟩:=by
 have hT:=sQ s hg
 have hA:=yL s hg
 have hba:=aDs [x] (by simp) (by intro y hy;simp only[List.mem_singleton] at hy;subst hy;exact hxs)
 rw[iD,eU,eG]
 generalize lU Φ s=T at hT hA ⊢
 simp only[List.map_cons,List.map_nil] at hba
 have hbl:(s.bars.flatMap Ba.cells).length=s.bars.length*14:=flat_length (k:=14) (fun _=>rfl) _
 have k1:((b:Nat):Int)< ((s.bars.length:Nat):Int):=by omega
 have k2:b*14<=s.bars.length*14:=by omega
 have k4:b*14+14<=s.bars.length*14:=by omega
 have k3:14<=s.bars.length*14 - b*14:=by omega
 obtain⟨y,hy⟩: ∃y,s.bars[b]=y:=⟨_,rfl⟩
 have hd:List.take 14 (List.drop (b*14) (s.bars.flatMap Ba.cells))=y.cells:=by rw[<-hy];exact Ny (k:=14) (fun _=>rfl) s.bars b hb
 simp only[Ba.cells,Ba.av,AV.cells] at hd
 (refine aP.introZ hF hro 2 mix names (fn:=Tryz.f21) Tryz.func21 rfl ?_;simp only[Tryz.ntmps21,Tryz.results21,aJ,Nat.reduceAdd,Nat.reduceSub])
 repeat' (first
  |simp -implicitDefEqProofs (maxSteps:=9999999) only[↓reduceIte,aA,aC,facts,Nat.reduceAdd,Nat.reduceEqDiff,Nat.reduceLT,Nat.reduceLeDiff,Int.reduceLE,Int.reduceBNe,AV.cells,AV.one,aH.cells13,hx,hob,Ba.av,fV,eF,List.length_drop,Int.natCast_nonneg,bF,aU,aV,dA,aW, *]
  |((with_reducible refine dG 38 ?_);refine bW hba (rfl) ?_)
  |((with_reducible refine aO ?_);refine bM (by decide+kernel) ?_)
  |((with_reducible refine dP ?_ ?_);· decide+kernel)
  |((with_reducible refine aS 46 ?_);refine PC.useZ hF (iF _ _ (by omega)) (rfl) fun v hv=>?_;subst hv))
 have hp:=Ij (c:=Ba.cells) (k:=14) (fun _=>rfl) s.bars b hb x
 simp only[Ba.cells,Ba.av,AV.cells] at hp
 rw[hp,show(aEi s b hb).av=AV.agg (.int .i64 (if(0:Int)=0 then o.kind else 0)::[.int .i64 0,.int .i64 (b:Nat),.int .i64 0,.int .i64 0,.int .i64 0,.sl 9 [] .none,.sl 14 [y.av] .none,.sl 1 [] .none,.sl 1 [] .none,.int .i64 0,.int .i64 0,.str ⟨#[]⟩]) from by rw[if_pos rfl,hk,<-hy];rfl]
 refine⟨0,rfl,.inr ⟨rfl,.str s.title,.msl 21 0 (tX s b x).bars.length 14,.msl 20 0 s.parts.length 5,0,.int .i64 0,.int .i64 (b:Nat),.int .i64 0,.int .i64 0,.int .i64 0,.sl 9 [] .full,.sl 14 [y.av] .full,.sl 1 [] .full,.sl 1 [] .full,.int .i64 0,.int .i64 0,.str ⟨#[]⟩,(20,.cells (cZ 22 s.parts))::(21,.cells ((s.bars.set b x).flatMap Ba.cells))::T,⟨by simp only[Nat.reduceLeDiff],?_⟩,
  Xx (s':=tX s b x) (T:=T) (fun k b h=>by have:=hT.mem h;omega) hg.hi (fun hp h=>⟨fun j hj=>(hA.mono h).pa (by omega) j hj,rfl⟩) ⟨fun z hz=>?_,hs.parts,by rw[tX,List.length_set];exact hs.nbars,hs.nparts⟩ (by simp [AV.one])⟩⟩
 ·simp only[St.hp,eU,eG,aH.cells13,hk,hx,hob,tX,List.length_set,Ba.av,List.map_cons,List.map_nil,List.cons_append,List.nil_append]
  (refine aB (by simp [hget]) (aB (by simp [hget]) (aB (by simp [hget]) (aB (by simp [hget]) (aB (by simp [hget]) (aB (by simp [hget]) (aB (by simp [hget]) (aB (by simp [hget]) (fun k b h=>?_))))))));have hmm:=hT.mem h;(repeat(first|rw[bD (by omega)]|rw[rZ (by omega)]));exact h)
 ·rcases List.mem_or_eq_of_mem_set hz with h|h
  ·exact hs.bars z h
  ·subst h;exact hxo
theorem jK {s:Sc} {o:aH} {R:AV->Prop} {e:Int} {su:St} (he:e≠0) (hn:su.nx<=9000000) (hR:R (errR e)) (h: ∀k b,hget (eU s o) k=some b->hget su.h k=some b):MK s o R (.int .i64 e) su:=⟨e,rfl,.inl ⟨he,⟨hn,h⟩,hR⟩⟩
theorem aV7 (s:Sc) (o:aH) (hk:o.kind=4) (hg:s.goodU Φ) (hno: ¬((0<=o.bar/\o.bar< (s.bars.length:Nat))/\o.bars.length=1)) {F:Fence} (hF:Free F) (hro:F.round=none) {W:World}:aP F Tryz.prog gl W 21 [.ptr 2000024 0] (MK s o (fun v=>v=errR 90)) ⟨iD Φ s o,2000068⟩:=by
 rw[iD,eU,eG]
 generalize lU Φ s=T
 by_cases h1:0<=o.bar/\o.bar< (s.bars.length:Nat)
 ·have h2: ¬o.bars.length=1:=fun h=>hno ⟨h1,h⟩
  have h3:(((o.bars.length:Nat):Int) !=1)=true:=by simp;omega
  (refine aP.introZ hF hro 2 mix names (fn:=Tryz.f21) Tryz.func21 rfl ?_;simp only[Tryz.ntmps21,Tryz.results21,aJ,Nat.reduceAdd,Nat.reduceSub])
  repeat' (first
  |simp -implicitDefEqProofs (maxSteps:=9999999) only[↓reduceIte,aA,aC,facts,Nat.reduceAdd,Nat.reduceEqDiff,Nat.reduceLeDiff,aH.cells13, *]
  |((with_reducible refine aS 46 ?_);refine PC.useZ hF (iF _ _ h1) (rfl) fun v hv=>?_;subst hv))
  (refine jK (by decide) (by simp only[Nat.reduceLeDiff]) rfl ?_;simp only[eU,eG,aH.cells13,hk];exact aB (by simp [hget]) (aB (by simp [hget]) (aB (by simp [hget]) (aB (by simp [hget]) (aB (by simp [hget]) fun k b h=>by cases h)))))
 ·(refine aP.introZ hF hro 2 mix names (fn:=Tryz.f21) Tryz.func21 rfl ?_;simp only[Tryz.ntmps21,Tryz.results21,aJ,Nat.reduceAdd,Nat.reduceSub])
  repeat' (first
  |simp -implicitDefEqProofs (maxSteps:=9999999) only[↓reduceIte,aA,aC,facts,Nat.reduceAdd,Nat.reduceEqDiff,Nat.reduceLeDiff,Option.map_none,aH.cells13, *]
  |((with_reducible refine aS 46 ?_);refine PC.useZ hF (sV _ _ h1) (rfl) fun v hv=>?_;subst hv))
  (refine jK (by decide) (by simp only[Nat.reduceLeDiff]) rfl ?_;simp only[eU,eG,aH.cells13,hk];exact aB (by simp [hget]) (aB (by simp [hget]) (aB (by simp [hget]) (aB (by simp [hget]) (aB (by simp [hget]) fun k b h=>by cases h)))))
end Go.Proofs.Pv
