/-
The abstract machine, part BF: functions that are handed plain values and answer what they have laid (owned by nobody else); calls that only look; what is frozen at a return.
Conditions: none but those that each statement names.
-/
import Derived.Test.YtoaofjhadfihjaaGreatDoorPvBE
import Derived.Lib.Overlaps
set_option linter.unusedVariables false
set_option linter.unusedSimpArgs false
set_option maxRecDepth 100000
set_option maxHeartbeats 16000000
namespace Go.Proofs.Pv
open Go
variable {P:Program} {G:Nat->Option (List AV)}
def up (n:Nat):Nat->Option Nat:=fun k=>some (k+n)
def hC (h:List (Nat×List AV)):List (Nat×aI):=h.map fun x=>(x.1,.cells x.2)
def hup (n:Nat) (h:List (Nat×List AV)):List (Nat×List AV):=h.map fun x=>(x.1+n,x.2.map (AV.ren (up n)))
def Own (P:Program) (G:Nat->Option (List AV)) (f:FuncId) (args:List AV) (v:AV) (h1:List (Nat×List AV)) (m:Nat):Prop:=
 ∀F,Free F->F.round=none-> ∀W,aP F P G W f args (fun u su=>u=v/\su=⟨hC h1,m⟩) ⟨[],0⟩
theorem aJc: ∀ {h1:List (Nat×List AV)} {k:Nat} {b:aI},hget (hC h1) k=some b-> ∃cs,b= .cells cs
 |[],k,b,h=>by simp [hC,hget] at h
 | (q,cs)::r,k,b,h=>by
  simp only[hC,List.map_cons,hget] at h
  split at h
  ·simp only[Option.some.injEq] at h
   exact⟨cs,h.symm⟩
  ·exact aJc (h1:=r) h
theorem vC {n:Nat}: ∀ {h1:List (Nat×List AV)} {k':Nat} {b':aI},hget (hC (hup n h1)) k'=some b'->n<=k'/\ ∃b,hget (hC h1) (k' - n)=some b/\b.ren (up n)=some b'
 |[],k',b',h=>by simp [hC,hup,hget] at h
 | (k,cs)::r,k',b',h=>by
  simp only[hC,hup,List.map_cons,hget] at h
  by_cases e:k'=k+n
  ·rw[if_pos e] at h
   simp only[Option.some.injEq] at h
   refine⟨by omega,.cells cs,?_,?_⟩
   ·simp only[hC,List.map_cons,hget]
    rw[if_pos (by omega)]
   ·rw[<-h];rfl
  ·rw[if_neg e] at h
   have ih:=vC (n:=n) (h1:=r) (k':=k') (b':=b') (by simpa [hC,hup] using h)
   obtain⟨g1,b,g2,g3⟩:=ih
   refine⟨g1,b,?_,g3⟩
   simp only[hC,List.map_cons,hget]
   rw[if_neg (by omega)]
   exact g2
theorem Own.call {F:Fence} (hF:Free F) (hro:F.round=none) {W:World} {f:FuncId} {args args':List AV} {v:AV} {h1:List (Nat×List AV)} {m:Nat} (own:Own P G f args' v h1 m) (he:args.map AV.plain=args') {st:St} {K:AV->St->Prop}
  (hK:K (v.ren (up st.nx)) ⟨hC (hup st.nx h1)++st.h,st.nx+m⟩):aP F P G W f args K st:=by
 subst he
 intro M w vs inv hargs
 let n:=st.nx
 let M0:Mem:= {I:=M.I,L:=jZ,T:=noT,F:=fun b=>w.heap[b]?}
 have inv0:Inv G M0 (fun k=>k< (⟨[],0⟩:St).nx) (⟨[],0⟩:St).hp W w:=
  ⟨inv.imm,fun b ob h=>h,inv.os,inv.tape,inv.out,fun key _=>⟨rfl,rfl⟩,fun key blk h=>by simp [St.hp,hget] at h,fun k1 k2 b1 b2 b h=>by simp [St.hp,hget] at h,inv.glob,fun _ _ _=>trivial⟩
 have hargs0:bP M0.rel (args.map AV.plain) vs.toList:=by
  refine⟨by simpa using hargs.1,fun i a v h1 h2=>?_⟩
  rw[List.getElem?_map] at h1
  cases ha:args[i]? with
  |none=>rw[ha] at h1;cases h1
  |some a0=>
   rw[ha] at h1
   simp only[Option.map_some,Option.some.injEq] at h1
   subst h1
   exact(hargs.2 i a0 v ha h2).plain
 obtain⟨g1,g2⟩:=own F hF hro W M0 w vs inv0 hargs0
 refine⟨g1,fun n'=>(g2 n').mono ?_⟩
 rintro e w' ⟨M',u,av,st',rfl,hle,inv',hv,rfl,rfl⟩
 have hold: ∀b ob,w.heap[b]?=some ob->w'.heap[b]?=some ob:=fun b ob hb=>inv'.far b ob (hle.F b ob hb)
 have hIold: ∀b o,b<w.heap.size->M'.I b o=M.I b o:=fun b o hb=>hle.IF b o (by show w.heap[b]?≠none;simp [hb])
 let g:Nat->Option Nat:=fun k=>if k<n then none else some (k - n)
 have fg: ∀k k',up n k=some k'->g k'=some k:=by
  intro k k' h
  simp only[up,Option.some.injEq] at h
  subst h
  show(if k+n<n then none else some (k+n - n))=some k
  rw[if_neg (by omega)];congr 1;omega
 have invR:Inv G (M'.renG g) (· <n+m) (hget (hC (hup n h1))) W w':=by
  refine Inv.renG (h:=hC h1) (nx:=m) (f:=up n) inv' fg (fun k' hk'=>?_) (fun k' b' hk'=>?_)
  ·have:g k'=some (k' - n):=if_neg (by omega)
   rw[this]
   exact inv'.fresh (k' - n) (by show¬k' - n<m;omega)
  ·obtain⟨q1,b,q2,q3⟩:=vC hk'
   exact⟨k' - n,b,by simp only[up,Option.some.injEq];omega,q2,q3⟩
 let M2:Mem:= {I:=M'.I,L:=fun k=>if k<n then M.L k else(M'.renG g).L k,T:=fun k=>if k<n then M.T k else(M'.renG g).T k,F:=M.F}
 have hlow: ∀k,k<n->g k=none:=fun k hk=>if_pos hk
 have hfr: ∀k,¬k<n->M.L k=none/\M.T k=none:=fun k hk=>inv.fresh k hk
 have hle2:M.le M2:=by
  refine⟨fun b o v hb=>hle.I b o v hb,fun k b hk=>?_,fun k x hk=>?_,fun _ _ h=>h,fun b o hf=>?_⟩
  ·have:k<n:=by
    by_cases h':k<n
    ·exact h'
    ·rw[(hfr k h').1] at hk;cases hk
   show(if k<n then M.L k else _)=_
   rw[if_pos this];exact hk
  ·have:k<n:=by
    by_cases h':k<n
    ·exact h'
    ·rw[(hfr k h').2] at hk;cases hk
   show(if k<n then M.T k else _)=_
   rw[if_pos this];exact hk
  ·cases hb:M.F b with
   |none=>exact absurd hb hf
   |some ob=>exact hIold b o (inv.lt_F hb)
 have hleR: ∀ {a:AV} {v:Value},(M'.renG g).rel a v->M2.rel a v:=fun r=>aQ.mono0 (fun _ _ _ h=>h) r (fun k b hk=>by
  have: ¬k<n:=fun h'=>by simp [Mem.renG,hlow k h'] at hk
  show(if k<n then M.L k else _)=_
  rw[if_neg this];exact hk) (fun k b hk=>by
  have: ¬k<n:=fun h'=>by simp [Mem.renG,hlow k h'] at hk
  show(if k<n then M.T k else _)=_
  rw[if_neg this];exact hk)
 refine⟨M2,u,_,_,rfl,hle2,?_,hleR (aQ.ren hv (fun k k' b h1 h2=>by simp only[Mem.renG,fg k k' h1,Option.bind_some];exact h2) (fun k k' b h1 h2=>by simp only[Mem.renG,fg k k' h1,Option.bind_some];exact h2)),hK⟩
 have hget2: ∀k blk,hget (hC (hup n h1)++st.h) k=some blk->(hget (hC (hup n h1)) k=some blk/\n<=k)\/hget st.h k=some blk:=by
  intro k blk hk
  rw[bV] at hk
  split at hk
  ·rename_i x hx
   simp only[Option.some.injEq] at hk;subst hk
   exact .inl ⟨hx,(vC hx).1⟩
  ·exact .inr hk
 have hboR: ∀ {k blk b},n<=k->(M'.renG g).blockOf k blk=some b->M2.blockOf k blk=some b:=by
  intro k blk b hk hb
  unfold Mem.blockOf at hb ⊢
  show(if blk.isTok then(if k<n then M.T k else(M'.renG g).T k).map (·.1) else(if k<n then M.L k else(M'.renG g).L k))=some b
  simp only[if_neg (show¬k<n by omega)];exact hb
 have hboL: ∀ {k blk b},hget st.h k=some blk->M.blockOf k blk=some b->M2.blockOf k blk=some b:=fun _ h=>Mem.blockOf_mono hle2 h
 constructor
 ·exact inv'.imm
 ·exact fun b ob hb=>hold b ob (inv.far b ob hb)
 ·exact inv'.os
 ·exact inv'.tape
 ·exact inv'.out
 ·intro key hkey
  have hkey': ¬key<n+m:=hkey
  have hn: ¬key<n:=by omega
  have:=invR.fresh key hkey'
  show(if key<n then M.L key else _)=none/\(if key<n then M.T key else _)=none
  rw[if_neg hn,if_neg hn]
  exact this
 ·intro key blk hk
  rcases hget2 key blk hk with⟨hk,hge⟩|hk
  ·obtain⟨b,ob,q1,q2,q3,q4,q5⟩:=invR.live key blk hk
   refine⟨b,ob,hboR hge q1,q2,?_,?_,q5⟩
   ·have hc: ∃cs,blk= .cells cs:=by
     obtain⟨_,b0,r1,r2⟩:=vC hk
     have: ∃cs,b0= .cells cs:=aJc r1
     obtain⟨cs,rfl⟩:=this
     simp only[aI.ren,Option.some.injEq] at r2
     exact⟨_,r2.symm⟩
    obtain⟨cs,rfl⟩:=hc
    cases ob<;>simp only[dB] at q3 ⊢
    obtain⟨r1,r2,r3,b1,z,r4,r5⟩:=q3
    refine⟨r1,r2,fun i hi hi'=>hleR (r3 i hi hi'),b1,z,?_,r5⟩
    show(if key<n then M.T key else _)=_
    rw[if_neg (by omega)];exact r4
   ·cases hb:M.F b with
    |none=>rfl
    |some ob'=>
     have h1':M'.F b=none:=q4
     have h2':=hle.F b ob' (by show w.heap[b]?=some ob';exact inv.far b ob' hb)
     rw[h1'] at h2';cases h2'
  ·obtain⟨b,ob,k1,k2,k3,k4,k5⟩:=inv.live key blk hk
   have hlt:=lt_of_heap k2
   refine⟨b,ob,hboL hk k1,hold b ob k2,k3.grow hle2 (fun ht b' e z hT o ho=>?_),k4,fun ht o=>?_⟩
   ·cases blk<;>simp [aI.isTok] at ht
    cases ob<;>simp only[dB] at k3
    obtain⟨_,b1,e1,z1,r1,_,_,r4⟩:=k3
    rw[hT] at r1;cases r1
    have:b=b':=by simpa [Mem.blockOf,aI.isTok,hT] using k1.symm
    subst this
    show M'.I b o=none
    rw[hIold b o hlt];exact r4 o ho
   ·show M'.I b o=none
    rw[hIold b o hlt];exact k5 ht o
 ·intro k1 k2 b1 b2 b h1' h2' h3 h4
  have fresh: ∀k blk b,hget (hC (hup n h1)) k=some blk->n<=k->M2.blockOf k blk=some b->(M'.renG g).blockOf k blk=some b/\w.heap.size<=b:=by
   intro k blk b hk hge hb
   obtain⟨b0,ob,q1,q2,q3,q4,q5⟩:=invR.live k blk hk
   have:=hboR hge q1
   rw[hb] at this;cases this
   refine⟨q1,?_⟩
   have h1'':M'.F b=none:=q4
   apply Classical.byContradiction
   intro hlt
   have hlt':b<w.heap.size:=by omega
   have h2'':=hle.F b w.heap[b] (by show w.heap[b]?=_;exact Array.getElem?_eq_getElem hlt')
   rw[h1''] at h2'';cases h2''
  have oldb: ∀k blk b,hget st.h k=some blk->M2.blockOf k blk=some b->M.blockOf k blk=some b/\b<w.heap.size:=by
   intro k blk b hk hb
   obtain⟨b0,ob,q1,q2,_⟩:=inv.live k blk hk
   have:=hboL hk q1
   rw[hb] at this;cases this
   exact⟨q1,lt_of_heap q2⟩
  rcases hget2 k1 b1 h1' with⟨u1,v1⟩|u1<;>rcases hget2 k2 b2 h2' with⟨u2,v2⟩|u2
  ·exact invR.inj k1 k2 b1 b2 b u1 u2 (fresh _ _ _ u1 v1 h3).1 (fresh _ _ _ u2 v2 h4).1
  ·have e1:=(fresh _ _ _ u1 v1 h3).2
   have e2:=(oldb _ _ _ u2 h4).2
   omega
  ·have e1:=(fresh _ _ _ u2 v2 h4).2
   have e2:=(oldb _ _ _ u1 h3).2
   omega
  ·exact inv.inj k1 k2 b1 b2 b u1 u2 (oldb _ _ _ u1 h3).1 (oldb _ _ _ u2 h4).1
 ·exact inv'.glob
 ·intros;trivial
theorem aGo {J:jY} {M:Mem} {al:Nat->Prop} {hp:Hp} {W w:World} (inv:Inv G M al hp W w) (hJ0: ∀b o v,M.I b o=some v->J b o=some v) (hJ1: ∀key cs b,hp key=some (.cells cs)->M.L key=some b-> ∀o,J b o=w.cell? ⟨b,o,none⟩): ∀(d:Nat) {a:AV} {v:Value},M.rel a v->aQ J jZ noT (a.now hp d) v
 |0,a,v,h=>by
  have h':aQ J M.L M.T a v:=aQ.mono0 (fun b o x hx=>hJ0 b o x hx) h (fun _ _ h=>h) (fun _ _ h=>h)
  exact h'.plain0
 | d + 1,a,v,h=>by
  have h':aQ J M.L M.T a v:=aQ.mono0 (fun b o x hx=>hJ0 b o x hx) h (fun _ _ h=>h) (fun _ _ h=>h)
  have ih:=fun {a v}=> @aGo J M al hp W w inv hJ0 hJ1 d a v
  cases a with
  | ptr key off=>
   simp only[AV.now]
   split
   ·rename_i cs hk
    cases h with
    | @ptr _ _ _ _ b hL=>
    obtain⟨b',ob,g1,g2,g3,g4,g5⟩:=inv.live key _ hk
    have hb:b'=b:=by simpa [Mem.blockOf,aI.isTok,hL] using g1.symm
    subst hb
    cases ob<;>simp only[dB] at g3
    rename_i c el fr
    obtain⟨rfl,k1,k2,_⟩:=g3
    refine .vp (fun q=>c.getD (off+q) undef) (fun q hq=>?_) (fun i hi=>?_)
    ·simp only[List.length_map,List.length_drop] at hq
     have hq':off+q<c.size:=by omega
     rw[hJ1 _ _ _ hk hL]
     rw[nJ g2]
     simp [hq']
    ·simp only[List.length_map,List.length_drop] at hi
     have hq':off+i<c.size:=by omega
     have:=ih (k2 (off+i) (by omega) hq')
     simpa [hq'] using this
   ·exact .ud
  |mcap key off n c k=>
   simp only[AV.now]
   exact h'.plain0
  | msl key off n k=>
   simp only[AV.now]
   split
   ·rename_i cs hk
    split
    ·rename_i hc
     obtain⟨hk0,hle,hpure⟩:=hc
     rw[List.all_eq_true] at hpure
     cases h with
     | @msl _ _ _ _ _ _ b cap z hL hT hz hcap=>
     obtain⟨b',ob,g1,g2,g3,g4,g5⟩:=inv.live key _ hk
     have hb:b'=b:=by simpa [Mem.blockOf,aI.isTok,hL] using g1.symm
     subst hb
     cases ob<;>simp only[dB] at g3
     rename_i c el fr
     obtain⟨rfl,k1,k2,_⟩:=g3
     have hl:n*k<=((cs.drop off).map (AV.now hp d)).length:=by simp;omega
     have hlen:(chunks (!(Nat.beq k 1)) k n ((cs.drop off).map (AV.now hp d))).length=n:=Ep n _
     have key:=aQ.sl (I:=J) (L:=jZ) (T:=noT) (k:=k) (c:=cap) (A:=some ⟨b',off,none⟩) (rows:=chunks (!(Nat.beq k 1)) k n ((cs.drop off).map (AV.now hp d))) (t:= .none) (b:=b') (o:=off) (fun q=>c.getD (off+q) undef)
      (by rw[hlen];exact hcap) (fun _=>rfl) (fun q hq=>by
       rw[hlen] at hq
       have hq':off+q<c.size:=by omega
       rw[hJ1 _ _ _ hk hL]
       rw[nJ g2]
       simp [hq']) (fun r hr=>((zQ hk0 n _ hl hpure).1 r hr).1) (fun r hr=>((zQ hk0 n _ hl hpure).1 r hr).2)
      (fun j i hj hi=>by
       obtain⟨h1,h2⟩:=aG1 hk0 hl hpure j i hj hi
       rw[h2]
       simp only[List.length_map,List.length_drop] at h1
       have hq':off+(j*k+i)<c.size:=by omega
       have:=ih (k2 (off+(j*k+i)) (by omega) hq')
       simpa [hq'] using this) trivial
     rw[hlen] at key
     exact key
    ·exact .ud
   ·exact .ud
  |fn f first cap=>
   simp only[AV.now]
   cases h with
   | @fn _ _ _ _ _ fs cs hf hc h1 h2=>
   exact .fn (by simpa using hf) (by simpa using hc) (fun i h h'=>by simpa using ih (h1 i (by simpa using h) h')) (fun i h h'=>by simpa using ih (h2 i (by simpa using h) h'))
  |agg cells=>
   simp only[AV.now]
   cases h with
   |agg hs hr=>exact .agg (by simpa using hs) (fun i h h'=>by simpa using ih (hr i (by simpa using h) h'))
  |ud=>exact h'.plain0
  |int=>exact h'.plain0
  |bool=>exact h'.plain0
  |str=>exact h'.plain0
  |sl=>exact h'.plain0
  |vp=>exact h'.plain0
  |nilp=>exact h'.plain0
  |yld=>exact h'.plain0
  |nilf=>exact h'.plain0
  |map=>exact h'.plain0
  |nilm=>exact h'.plain0
  |tup=>exact h'.plain0
  |nili=>exact h'.plain0
  |ifc=>exact h'.plain0
theorem aQ.ren_id {I:jY} {L:Lo} {T:To} {a:AV} {v:Value} (h:aQ I L T a v) {f:Nat->Option Nat} (hL: ∀k,L k≠none->f k=some k) (hT: ∀k,T k≠none->f k=some k):a.ren f=a:=by
 have nn: ∀ {α:Type} {o:Option α} {x:α},o=some x->o≠none:=fun h=>by rw[h];simp
 induction h with
 |ud=>rfl
 |int=>rfl
 |bool=>rfl
 |str=>rfl
 | @sl L T k c A rows t b o vs hc hA hI' hk hP hR ht ih=>
  cases t with
  |tok q=>
   have:=hT q (nn ht.2.2)
   simp only[AV.ren,this]
  |_=>rfl
 |msl h1 h2 h3 h4=>simp only[AV.ren,hL _ (nn h1)]
 |mcap h1 h2 h3 h4=>simp only[AV.ren,hL _ (nn h1)]
 |vp vs hI' hR ih=>rfl
 |ptr h1=>simp only[AV.ren,hL _ (nn h1)]
 |nilp=>rfl
 | @fn L T f first cap fs cs hf hc h1 h2 ih1 ih2=>
  simp only[AV.ren,AV.renL_eq]
  congr 1
  ·refine List.ext_getElem (by simp) fun i g1 g2=>?_
   simpa using ih1 i g2 (by omega) hL hT
  ·refine List.ext_getElem (by simp) fun i g1 g2=>?_
   simpa using ih2 i g2 (by omega) hL hT
 |yld h1=>simp only[AV.ren,hL _ (nn h1)]
 |nilf=>rfl
 |map h1=>simp only[AV.ren,hL _ (nn h1)]
 |nilm=>rfl
 | @agg L T cells cs hs h ih=>
  simp only[AV.ren,AV.renL_eq]
  congr 1
  refine List.ext_getElem (by simp) fun i g1 g2=>?_
  simpa using ih i g2 (by omega) hL hT
 | @tup L T cells cs hs h ih=>
  simp only[AV.ren,AV.renL_eq]
  congr 1
  refine List.ext_getElem (by simp) fun i g1 g2=>?_
  simpa using ih i g2 (by omega) hL hT
 |nili=>rfl
 |ifc h ih=>simp only[AV.ren];rw[ih hL hT]
theorem dB.ren_id {M:Mem} {k:Nat} {b:aI} {ob:Obj} (h:dB M k b ob) {f:Nat->Option Nat} (hL: ∀k,M.L k≠none->f k=some k) (hT: ∀k,M.T k≠none->f k=some k):b.ren f=some b:=by
 have nn: ∀ {α:Type} {o:Option α} {x:α},o=some x->o≠none:=fun h=>by rw[h];simp
 cases b with
 |cells cs=>
  cases ob<;>simp only[dB] at h
  obtain⟨_,h2,h3,_⟩:=h
  simp only[aI.ren]
  congr 2
  refine List.ext_getElem (by simp) fun i g1 g2=>?_
  simpa using(h3 i g2 (by omega)).ren_id hL hT
 |tok=>rfl
 |map es c=>
  cases ob<;>simp only[dB] at h
  obtain⟨_,h2,h3⟩:=h
  simp only[aI.ren]
  congr 2
  refine List.ext_getElem (by simp) fun i g1 g2=>?_
  obtain⟨q1,q2,q3⟩:=h3 i g2 (by omega)
  simp only[List.getElem_map,ME.ren]
  rw[q1.ren_id hL hT,q2.ren_id hL hT]
 |sit s p=>rfl
 |mit m a b c=>
  cases ob<;>simp only[dB] at h
  obtain⟨⟨q,h1,_⟩,_⟩:=h
  simp only[aI.ren,hL _ (nn h1)]
 |nmit=>rfl
 |loop st pd s ps as bo d=>
  cases ob<;>simp only[dB] at h
  obtain⟨_,_,_,_,_,h6,h7,h8⟩:=h
  simp only[aI.ren,hL _ (nn h6)]
  congr 2
  refine List.ext_getElem (by simp) fun i g1 g2=>?_
  simpa using(h8 i g2 (by omega)).ren_id hL hT
 |dfd o=>rfl
open Classical in
theorem Rd.intro {f:FuncId} {args:List AV} {hl:List (Nat×aI)} {v:AV} (n0:Nat) (hv: ∀f:Nat->Option Nat,(∀k b,hget hl k=some b->f k=some k)->v.ren f=v)
  (h: ∀nx,n0<=nx-> ∀F,Free F->F.round=none-> ∀W,aP F P G W f args (fun u su=>u=v/\ ∀k b,hget hl k=some b->su.hp k=some b) ⟨hl,nx⟩):Rd P G f args (hget hl) v:=by
 intro F hF W al hp0 M w vs nx hal hsub inv hargs
 obtain⟨F1,inv1,hback⟩:=inv.hide (fun k=>(hget hl k).isSome) (hp1:=hget hl) (al1:=(· <nx+n0)) (fun k b hk=>⟨hsub k b hk,by simp [hk]⟩) (fun k hk=>by have:=hal k hk;show k<nx+n0;omega)
 obtain⟨g1,g2⟩:=h (nx+n0) (by omega) F.plain ⟨hF.fn,hF.depth⟩ rfl W {M with F:=F1} w vs inv1 hargs
 replace g2: ∀n,CallsIn F n P f vs w _:=g2
 refine⟨g1,fun n=>(g2 n).mono ?_⟩
 rintro e w' ⟨M',u,av,su,rfl,hle,inv',hrel,rfl,hsame⟩
 obtain⟨hle2,hinv2⟩:=hback M' w' _ _ hle inv'
 have invx:Inv G {M' with F:=M.F} (· <su.nx) hp0 W w':=hinv2 hp0 fun k b hk=>by
  cases hb:hget hl k with
  |none=>exact .inl ⟨hk,by simp [hb]⟩
  |some b'=>
   have:=hsub k b' hb
   rw[hk] at this;cases this
   exact .inr (hsame k b hb)
 let fa:Nat->Option Nat:=fun k=>if al k then some k else none
 have hfa: ∀k k',fa k=some k'->k'=k/\al k:=by
  intro k k' h
  by_cases ha:al k
  ·simp only[fa,if_pos ha,Option.some.injEq] at h;exact⟨h.symm,ha⟩
  ·simp only[fa,if_neg ha] at h;cases h
 have hLa: ∀k,M.L k≠none->fa k=some k:=fun k hk=>if_pos (Classical.byContradiction fun ha=>hk (inv.fresh k ha).1)
 have hTa: ∀k,M.T k≠none->fa k=some k:=fun k hk=>if_pos (Classical.byContradiction fun ha=>hk (inv.fresh k ha).2)
 let Mx:Mem:= {M' with F:=M.F}
 have hlex:M.le Mx:=hle2
 have hLr: ∀k k' b,fa k=some k'->Mx.L k=some b->(Mx.renG fa).L k'=some b:=fun k k' b h1 h2=>by
  obtain⟨rfl,ha⟩:=hfa k k' h1
  simp only[Mem.renG,h1,Option.bind_some];exact h2
 have hTr: ∀k k' b,fa k=some k'->Mx.T k=some b->(Mx.renG fa).T k'=some b:=fun k k' b h1 h2=>by
  obtain⟨rfl,ha⟩:=hfa k k' h1
  simp only[Mem.renG,h1,Option.bind_some];exact h2
 have hlive: ∀k b,hp0 k=some b->fa k=some k/\b.ren fa=some b:=by
  intro k b hk
  obtain⟨q,ob,q1,q2,q3,_⟩:=inv.live k b hk
  refine⟨?_,q3.ren_id hLa hTa⟩
  unfold Mem.blockOf at q1
  split at q1
  ·refine hTa k fun hn=>?_
   rw[hn] at q1;cases q1
  ·refine hLa k fun hn=>?_
   rw[hn] at q1;cases q1
 have fin:Inv G (Mx.renG fa) al hp0 W w':=by
  refine⟨invx.imm,invx.far,invx.os,invx.tape,invx.out,fun key hkey=>?_,fun key blk hb=>?_,fun k1 k2 b1 b2 b h1 h2 h3 h4=>?_,invx.glob,fun _ _ _=>trivial⟩
  ·have:fa key=none:=if_neg hkey
   simp only[Mem.renG,this,Option.bind_none,and_self]
  ·obtain⟨r1,r2⟩:=hlive key blk hb
   obtain⟨b,ob,m1,m2,m3,m4,m5⟩:=invx.live key blk hb
   refine⟨b,ob,?_,m2,m3.renG (fun k k' h=>?_) r1 r2,m4,m5⟩
   ·unfold Mem.blockOf at m1 ⊢
    simp only[Mem.renG,r1,Option.bind_some]
    exact m1
   ·obtain⟨rfl,_⟩:=hfa k k' h;exact h
  ·have same: ∀k blk q,hp0 k=some blk->(Mx.renG fa).blockOf k blk=some q->Mx.blockOf k blk=some q:=by
    intro k blk q hk hq
    obtain⟨r1,_⟩:=hlive k blk hk
    unfold Mem.blockOf at hq ⊢
    simp only[Mem.renG,r1,Option.bind_some] at hq
    exact hq
   exact invx.inj k1 k2 b1 b2 b h1 h2 (same _ _ _ h1 h3) (same _ _ _ h2 h4)
 refine⟨Mx.renG fa,u,rfl,⟨hlex.I,fun k b hk=>?_,fun k x hk=>?_,hlex.F,hlex.IF⟩,fin,?_⟩
 ·exact hLr k k b (hLa k (by rw[hk];simp)) (hlex.L k b hk)
 ·exact hTr k k x (hTa k (by rw[hk];simp)) (hlex.T k x hk)
 ·have:=aQ.ren (f:=fa) hrel hLr hTr
  rw[hv fa fun k b hk=>(hlive k b (hsub k b hk)).1] at this
  exact this
def vF (v:AV) (h1:List (Nat×List AV)) (m:Nat):AV->St->Prop:=fun u su=> ∃f g:Nat->Option Nat,(∀k k',f k=some k'->g k'=some k)/\(∀k',¬k'<m->g k'=none)/\aG f su.h (hC h1)/\u.ren f=v
theorem Own.intro (d:Nat) (hmix:P.follows .mixedOrders=true) (hname: ∀(f:Nat) (fn:Func),P.funcs[f]?=some fn->fn.name≠ "runtime.NumGoroutine") {f:FuncId} {fn:Func} {c:Code} {args:List AV} {v:AV} {h1:List (Nat×List AV)} {m:Nat} (hf:P.funcs[f]?=some fn) (hb:fn.body=some c)
  (h: ∀(F:Fence),Free F->F.round=none-> ∀(W:World),fG P G (OZ F P G W true d) c (mO P (OZ F P G W true d) fn.results.toList (fun v st=>(v,st)) (vF v h1 m)) (uA fn.ntmps args) ⟨[],0⟩):Own P G f args v h1 m:=by
 intro F hF hro W
 have hpl:F.plain=F:=by cases F;simp only[Fence.plain] at hro ⊢;simp_all
 have hc:aP F P G W f args (vF v h1 m) ⟨[],0⟩:=by
  refine wO (ok:=id) hF hro hname (Jc hmix W d true F hF hpl (fun _=>hro)) (fin:=fun _ _ v st=>(v,st)) (fun _ _ _ _ _ _ _ _ inv hv=>⟨_,Mem.le_refl _,inv,hv⟩) ?_
  unfold Bh
  rw[hf]
  simp only[hb]
  exact h F hF hro W
 intro M w vs inv hargs
 obtain⟨g1,g2⟩:=hc M w vs inv hargs
 refine⟨g1,fun n=>(g2 n).mono ?_⟩
 rintro e w' ⟨M',u,av,su,rfl,hle,inv',hrel,r,g,k1,k2,k3,rfl⟩
 have hnone: ∀k,M.L k=none/\M.T k=none:=fun k=>inv.fresh k (by show¬k<0;omega)
 refine⟨M'.renG g,u,_,_,rfl,⟨hle.I,fun k b hk=>?_,fun k x hk=>?_,hle.F,hle.IF⟩,Inv.renG (h:=su.h) (nx:=su.nx) inv' k1 (fun k' hk'=>by rw[k2 k' hk'];exact⟨rfl,rfl⟩) k3,?_,rfl,rfl⟩
 ·rw[(hnone k).1] at hk;cases hk
 ·rw[(hnone k).2] at hk;cases hk
 ·exact aQ.ren hrel (fun k k' b h1 h2=>by simp only[Mem.renG,k1 k k' h1,Option.bind_some];exact h2) (fun k k' b h1 h2=>by simp only[Mem.renG,k1 k k' h1,Option.bind_some];exact h2)
theorem vV {F:Fence} (hF:Free F) (hro:F.round=none) {W:World} {rng:Bool} {d:Nat} {f:FuncId} {args args':List AV} {v:AV} {h1:List (Nat×List AV)} {m:Nat} {h:List (Nat×aI)} {nx:Nat} {K:AV->St->Prop} (own:Own P G f args' v h1 m) (he:args.map AV.plain=args')
 (hK:K (v.ren (up nx)) ⟨hC (hup nx h1)++h,nx+m⟩):(OZ F P G W rng d).call f args K ⟨h,nx⟩:=nG (own.call hF hro he (st:=⟨h,nx⟩) hK)
open Classical in
theorem PC.of_own {f:FuncId} {args:List AV} {v:AV} {h1:List (Nat×List AV)} {m:Nat} (own:Own P G f args v h1 m) (d:Nat) {r:AV} (hr:v.now (hget (hC h1)) d=r):PC P G f args (fun u=>u=r):=by
 intro F hF hro W M w vs hL hT inv hargs
 have inv0:Inv G M (fun k=>k< (⟨[],0⟩:St).nx) (⟨[],0⟩:St).hp W w:=
  ⟨inv.imm,inv.far,inv.os,inv.tape,inv.out,fun key _=>by rw[hL,hT];exact⟨rfl,rfl⟩,fun key blk h=>by simp [St.hp,hget] at h,fun k1 k2 b1 b2 b h=>by simp [St.hp,hget] at h,inv.glob,fun _ _ _=>trivial⟩
 obtain⟨g1,g2⟩:=own F hF hro W M w vs inv0 (bP.mono (fun a v hv=>hv.of_pure) hargs)
 refine⟨g1,fun n=>(g2 n).mono ?_⟩
 rintro e w' ⟨M',u,av,su,rfl,hle,inv',hrel,rfl,rfl⟩
 let live:Nat->Prop:=fun b=> ∃key cs,hget (hC h1) key=some (.cells cs)/\M'.L key=some b
 let J:jY:=fun b o=>if live b then w'.cell? ⟨b,o,none⟩ else M'.I b o
 have hlv: ∀b,live b->M'.F b=none/\ ∀o,M'.I b o=none:=by
  rintro b ⟨key,cs,k1,k2⟩
  obtain⟨q,ob,q1,q2,q3,q4,q5⟩:=inv'.live key (.cells cs) k1
  have:q=b:=by simpa [Mem.blockOf,aI.isTok,k2] using q1.symm
  subst this
  exact⟨q4,q5 rfl⟩
 have hJ0: ∀b o v,M'.I b o=some v->J b o=some v:=by
  intro b o v hv
  by_cases hb:live b
  ·rw[(hlv b hb).2 o] at hv;cases hv
  ·show(if live b then _ else M'.I b o)=_
   rw[if_neg hb];exact hv
 have hrel':=aGo inv' hJ0 (fun key cs b k1 k2 o=>by
  show(if live b then _ else M'.I b o)=_
  rw[if_pos ⟨key,cs,k1,k2⟩]) d hrel
 refine⟨{I:=J,L:=M'.L,T:=M'.T,F:=M'.F},u,_,rfl,⟨fun b o v h=>hJ0 b o v (hle.I b o v h),hle.L,hle.T,hle.F,fun b o hf=>?_⟩,?_,hrel',hr⟩
 ·have hb: ¬live b:=fun hb=>by
   have:=(hlv b hb).1
   cases hF':M.F b with
   |none=>exact hf hF'
   |some ob=>rw[hle.F b ob hF'] at this;cases this
  show(if live b then _ else M'.I b o)=_
  rw[if_neg hb];exact hle.IF b o hf
 ·refine⟨fun b o v h=>?_,inv'.far,inv'.os,inv'.tape,inv'.out,fun key hk=>absurd trivial hk,fun key blk h=>by simp at h,fun k1 k2 b1 b2 b h=>by simp at h,fun g cells hg=>?_,fun _ _ _=>trivial⟩
  ·by_cases hb:live b
   ·have h':(if live b then w'.cell? ⟨b,o,none⟩ else M'.I b o)=some v:=h
    rw[if_pos hb] at h';exact h'
   ·have h':(if live b then w'.cell? ⟨b,o,none⟩ else M'.I b o)=some v:=h
    rw[if_neg hb] at h';exact inv'.imm b o v h'
  ·exact aQ.mono0 hJ0 (inv'.glob g cells hg) (fun _ _ h=>h) (fun _ _ h=>h)
def AV.nowS (sty:Nat->Bool) (hp:Hp):Nat->AV->AV
 |0,x=>x.plain0
 | d+1,x=>match x with
  | .ptr key off=>(match hp key with
   |some (.cells cs)=> .vp ((cs.drop off).map (AV.nowS sty hp d))
   |_=> .ud)
  | .msl key off n k=>(match hp key with
   |some (.cells cs)=>if 0<k/\off+n*k<=cs.length/\((cs.drop off).map (AV.nowS sty hp d)).all AV.pure=true then .sl k (chunks (!(Nat.beq k 1)||sty key) k n ((cs.drop off).map (AV.nowS sty hp d))) .none else .ud
   |_=> .ud)
  | .fn f first cap=> .fn f (first.map (AV.nowS sty hp d)) (cap.map (AV.nowS sty hp d))
  | .agg cs=> .agg (cs.map (AV.nowS sty hp d))
  |x=>x.plain0
theorem styk {sty:Nat->Bool} (k key:Nat):(!(Nat.beq k 1)||sty key)=true\/k=1:=by
 by_cases h:k=1
 ·exact .inr h
 ·have:Nat.beq k 1=false:=by
   cases hb:Nat.beq k 1 with
   |false=>rfl
   |true=>exact absurd (Nat.eq_of_beq_eq_true hb) h
  simp [this]
theorem Ef {a:Bool} {k:Nat} (ha:a=true\/k=1) (hk:0<k): ∀(n:Nat) (cs:List AV),n*k<=cs.length->(∀x∈cs,x.pure=true)->
  (∀r∈chunks a k n cs,r.cells.length=k/\ ∀x∈r.cells,x.pure=true)/\(chunks a k n cs).flatMap AV.cells=cs.take (n*k)
 |0,cs,_,_=>by simp [chunks]
 | n +1,cs,hl,hp=>by
  have hl':n*k+k<=cs.length:=by rw[<-Nat.succ_mul];exact hl
  obtain⟨h1,h2⟩:=Ef ha hk n (cs.drop k) (by simp;omega) (fun x hx=>hp x (List.mem_of_mem_drop hx))
  have hrow:(if a=true then AV.agg (cs.take k) else cs.headD .ud).cells=cs.take k:=by
   rcases ha with ha|e
   ·simp [ha,AV.cells]
   ·subst e
    match cs,hl',hp with
    |[],hl',_=>simp at hl'
    | c::cs,_,hp=>
     have hc:=AV.one_of_pure (hp c (by simp))
     cases a with
     |true=>simp [AV.cells]
     |false=>
      simp only[Bool.false_eq_true,if_false,List.headD_cons,List.take_succ_cons,List.take_zero]
      cases c<;>first|rfl|simp [AV.one] at hc
  simp only[chunks]
  refine⟨fun r hr=>?_,?_⟩
  ·rcases List.mem_cons.1 hr with rfl|hr
   ·rw[hrow]
    exact⟨by simp;omega,fun x hx=>hp x (List.mem_of_mem_take hx)⟩
   ·exact h1 r hr
  ·rw[List.flatMap_cons,hrow,h2,Nat.succ_mul,Nat.add_comm,List.take_add]
theorem aGp {a:Bool} {k:Nat} (ha:a=true\/k=1) (hk:0<k) {n:Nat} {cs:List AV} (hl:n*k<=cs.length) (hp: ∀x∈cs,x.pure=true):
  ∀j i (hj:j< (chunks a k n cs).length) (hi:i< ((chunks a k n cs)[j]).cells.length),∃h:j*k+i<cs.length,((chunks a k n cs)[j]).cells[i]=cs[j*k+i]:=by
 induction n generalizing cs with
 |zero=>intro j i hj;simp [chunks] at hj
 | succ n ih=>
  intro j i hj hi
  have hl':n*k+k<=cs.length:=by rw[<-Nat.succ_mul];exact hl
  have hrow:(if a=true then AV.agg (cs.take k) else cs.headD .ud).cells=cs.take k:=by
   rcases ha with ha|e
   ·simp [ha,AV.cells]
   ·subst e
    match cs,hl',hp with
    |[],hl',_=>simp at hl'
    | c::cs,_,hp=>
     have hc:=AV.one_of_pure (hp c (by simp))
     cases a with
     |true=>simp [AV.cells]
     |false=>
      simp only[Bool.false_eq_true,if_false,List.headD_cons,List.take_succ_cons,List.take_zero]
      cases c<;>first|rfl|simp [AV.one] at hc
  cases j with
  | zero=>
   simp only[chunks,List.getElem_cons_zero] at hi ⊢
   have hi':i< (cs.take k).length:=by rw[<-hrow];exact hi
   have hik:i<k:=by simp at hi';omega
   refine⟨by omega,?_⟩
   have: ∀(l:List AV) (e:l=cs.take k) (h:i<l.length),l[i]=cs[0*k+i]'(by omega):=by
    intro l e h;subst e;simp
   exact this _ hrow hi
  |succ j=>
   simp only[chunks,List.getElem_cons_succ] at hi ⊢
   obtain⟨h1,h2⟩:=ih (cs:=cs.drop k) (by simp;omega) (fun x hx=>hp x (List.mem_of_mem_drop hx)) j i (by simpa [chunks] using hj) hi
   have hlen:(cs.drop k).length=cs.length - k:=by simp
   refine⟨by rw[Nat.succ_mul];omega,?_⟩
   rw[h2,List.getElem_drop]
   congr 1
   rw[Nat.succ_mul];omega
theorem Dj {sty:Nat->Bool} {J:jY} {M:Mem} {al:Nat->Prop} {hp:Hp} {W w:World} (inv:Inv G M al hp W w) (hJ0: ∀b o v,M.I b o=some v->J b o=some v) (hJ1: ∀key cs b,hp key=some (.cells cs)->M.L key=some b-> ∀o,J b o=w.cell? ⟨b,o,none⟩): ∀(d:Nat) {a:AV} {v:Value},M.rel a v->aQ J jZ noT (a.nowS sty hp d) v
 |0,a,v,h=>by
  have h':aQ J M.L M.T a v:=aQ.mono0 (fun b o x hx=>hJ0 b o x hx) h (fun _ _ h=>h) (fun _ _ h=>h)
  exact h'.plain0
 | d + 1,a,v,h=>by
  have h':aQ J M.L M.T a v:=aQ.mono0 (fun b o x hx=>hJ0 b o x hx) h (fun _ _ h=>h) (fun _ _ h=>h)
  have ih:=fun {a v}=> @Dj sty J M al hp W w inv hJ0 hJ1 d a v
  cases a with
  | ptr key off=>
   simp only[AV.nowS]
   split
   ·rename_i cs hk
    cases h with
    | @ptr _ _ _ _ b hL=>
    obtain⟨b',ob,g1,g2,g3,g4,g5⟩:=inv.live key _ hk
    have hb:b'=b:=by simpa [Mem.blockOf,aI.isTok,hL] using g1.symm
    subst hb
    cases ob<;>simp only[dB] at g3
    rename_i c el fr
    obtain⟨rfl,k1,k2,_⟩:=g3
    refine .vp (fun q=>c.getD (off+q) undef) (fun q hq=>?_) (fun i hi=>?_)
    ·simp only[List.length_map,List.length_drop] at hq
     have hq':off+q<c.size:=by omega
     rw[hJ1 _ _ _ hk hL]
     rw[nJ g2]
     simp [hq']
    ·simp only[List.length_map,List.length_drop] at hi
     have hq':off+i<c.size:=by omega
     have:=ih (k2 (off+i) (by omega) hq')
     simpa [hq'] using this
   ·exact .ud
  |mcap key off n c k=>
   simp only[AV.nowS]
   exact h'.plain0
  | msl key off n k=>
   simp only[AV.nowS]
   split
   ·rename_i cs hk
    split
    ·rename_i hc
     obtain⟨hk0,hle,hpure⟩:=hc
     rw[List.all_eq_true] at hpure
     cases h with
     | @msl _ _ _ _ _ _ b cap z hL hT hz hcap=>
     obtain⟨b',ob,g1,g2,g3,g4,g5⟩:=inv.live key _ hk
     have hb:b'=b:=by simpa [Mem.blockOf,aI.isTok,hL] using g1.symm
     subst hb
     cases ob<;>simp only[dB] at g3
     rename_i c el fr
     obtain⟨rfl,k1,k2,_⟩:=g3
     have hl:n*k<=((cs.drop off).map (AV.nowS sty hp d)).length:=by simp;omega
     have hlen:(chunks (!(Nat.beq k 1)||sty key) k n ((cs.drop off).map (AV.nowS sty hp d))).length=n:=Ep n _
     have keyR:=aQ.sl (I:=J) (L:=jZ) (T:=noT) (k:=k) (c:=cap) (A:=some ⟨b',off,none⟩) (rows:=chunks (!(Nat.beq k 1)||sty key) k n ((cs.drop off).map (AV.nowS sty hp d))) (t:= .none) (b:=b') (o:=off) (fun q=>c.getD (off+q) undef)
      (by rw[hlen];exact hcap) (fun _=>rfl) (fun q hq=>by
       rw[hlen] at hq
       have hq':off+q<c.size:=by omega
       rw[hJ1 _ _ _ hk hL]
       rw[nJ g2]
       simp [hq']) (fun r hr=>((Ef (styk k key) hk0 n _ hl hpure).1 r hr).1) (fun r hr=>((Ef (styk k key) hk0 n _ hl hpure).1 r hr).2)
      (fun j i hj hi=>by
       obtain⟨h1,h2⟩:=aGp (styk k key) hk0 hl hpure j i hj hi
       rw[h2]
       simp only[List.length_map,List.length_drop] at h1
       have hq':off+(j*k+i)<c.size:=by omega
       have:=ih (k2 (off+(j*k+i)) (by omega) hq')
       simpa [hq'] using this) trivial
     rw[hlen] at keyR
     exact keyR
    ·exact .ud
   ·exact .ud
  |fn f first cap=>
   simp only[AV.nowS]
   cases h with
   | @fn _ _ _ _ _ fs cs hf hc h1 h2=>
   exact .fn (by simpa using hf) (by simpa using hc) (fun i h h'=>by simpa using ih (h1 i (by simpa using h) h')) (fun i h h'=>by simpa using ih (h2 i (by simpa using h) h'))
  |agg cells=>
   simp only[AV.nowS]
   cases h with
   |agg hs hr=>exact .agg (by simpa using hs) (fun i h h'=>by simpa using ih (hr i (by simpa using h) h'))
  |ud=>exact h'.plain0
  |int=>exact h'.plain0
  |bool=>exact h'.plain0
  |str=>exact h'.plain0
  |sl=>exact h'.plain0
  |vp=>exact h'.plain0
  |nilp=>exact h'.plain0
  |yld=>exact h'.plain0
  |nilf=>exact h'.plain0
  |map=>exact h'.plain0
  |nilm=>exact h'.plain0
  |tup=>exact h'.plain0
  |nili=>exact h'.plain0
  |ifc=>exact h'.plain0
open Classical in
theorem PC.of_ownS {sty:Nat->Bool} {f:FuncId} {args:List AV} {v:AV} {h1:List (Nat×List AV)} {m:Nat} (own:Own P G f args v h1 m) (d:Nat) {r:AV} (hr:v.nowS sty (hget (hC h1)) d=r):PC P G f args (fun u=>u=r):=by
 intro F hF hro W M w vs hL hT inv hargs
 have inv0:Inv G M (fun k=>k< (⟨[],0⟩:St).nx) (⟨[],0⟩:St).hp W w:=
  ⟨inv.imm,inv.far,inv.os,inv.tape,inv.out,fun key _=>by rw[hL,hT];exact⟨rfl,rfl⟩,fun key blk h=>by simp [St.hp,hget] at h,fun k1 k2 b1 b2 b h=>by simp [St.hp,hget] at h,inv.glob,fun _ _ _=>trivial⟩
 obtain⟨g1,g2⟩:=own F hF hro W M w vs inv0 (bP.mono (fun a v hv=>hv.of_pure) hargs)
 refine⟨g1,fun n=>(g2 n).mono ?_⟩
 rintro e w' ⟨M',u,av,su,rfl,hle,inv',hrel,rfl,rfl⟩
 let live:Nat->Prop:=fun b=> ∃key cs,hget (hC h1) key=some (.cells cs)/\M'.L key=some b
 let J:jY:=fun b o=>if live b then w'.cell? ⟨b,o,none⟩ else M'.I b o
 have hlv: ∀b,live b->M'.F b=none/\ ∀o,M'.I b o=none:=by
  rintro b ⟨key,cs,k1,k2⟩
  obtain⟨q,ob,q1,q2,q3,q4,q5⟩:=inv'.live key (.cells cs) k1
  have:q=b:=by simpa [Mem.blockOf,aI.isTok,k2] using q1.symm
  subst this
  exact⟨q4,q5 rfl⟩
 have hJ0: ∀b o v,M'.I b o=some v->J b o=some v:=by
  intro b o v hv
  by_cases hb:live b
  ·rw[(hlv b hb).2 o] at hv;cases hv
  ·show(if live b then _ else M'.I b o)=_
   rw[if_neg hb];exact hv
 have hrel':=Dj (sty:=sty) inv' hJ0 (fun key cs b k1 k2 o=>by
  show(if live b then _ else M'.I b o)=_
  rw[if_pos ⟨key,cs,k1,k2⟩]) d hrel
 refine⟨{I:=J,L:=M'.L,T:=M'.T,F:=M'.F},u,_,rfl,⟨fun b o v h=>hJ0 b o v (hle.I b o v h),hle.L,hle.T,hle.F,fun b o hf=>?_⟩,?_,hrel',hr⟩
 ·have hb: ¬live b:=fun hb=>by
   have:=(hlv b hb).1
   cases hF':M.F b with
   |none=>exact hf hF'
   |some ob=>rw[hle.F b ob hF'] at this;cases this
  show(if live b then _ else M'.I b o)=_
  rw[if_neg hb];exact hle.IF b o hf
 ·refine⟨fun b o v h=>?_,inv'.far,inv'.os,inv'.tape,inv'.out,fun key hk=>absurd trivial hk,fun key blk h=>by simp at h,fun k1 k2 b1 b2 b h=>by simp at h,fun g cells hg=>?_,fun _ _ _=>trivial⟩
  ·by_cases hb:live b
   ·have h':(if live b then w'.cell? ⟨b,o,none⟩ else M'.I b o)=some v:=h
    rw[if_pos hb] at h';exact h'
   ·have h':(if live b then w'.cell? ⟨b,o,none⟩ else M'.I b o)=some v:=h
    rw[if_neg hb] at h';exact inv'.imm b o v h'
  ·exact aQ.mono0 hJ0 (inv'.glob g cells hg) (fun _ _ h=>h) (fun _ _ h=>h)
theorem PC.callS {sty:Nat->Bool} {F:Fence} (hF:Free F) {W:World} {f:FuncId} {args:List AV} {R:AV->Prop} {hp0:Hp} (d:Nat) (h:PC P G f (args.map (AV.nowS sty hp0 d)) R) (hfl: ∀v,R v->v.flat=true) {al:Nat->Prop} {M:Mem} {w:World} {vs:Array Value} (inv:Inv G M al hp0 W w) (hargs:bP M.rel args vs.toList):
  (∃fn,P.funcs[f]?=some fn/\fn.body.isSome=true/\fn.name≠ "runtime.NumGoroutine")/\
  ∀n,CallsIn F n P f vs w fun e w'=> ∃v av,e= .returned v/\Inv G M al hp0 W w'/\M.rel av v/\R av:=by
 let M0:Mem:= {I:=imm w,L:=jZ,T:=noT,F:=fun b=>w.heap[b]?}
 have inv0:Inv G M0 (fun _=>False) (fun _=>none) W w:=by
  constructor
  ·exact fun b o v h=>h
  ·exact fun b ob h=>h
  ·exact inv.os
  ·exact inv.tape
  ·exact inv.out
  ·exact fun key _=>⟨rfl,rfl⟩
  ·intro key blk h;cases h
  ·intro k1 k2 b1 b2 b h;cases h
  ·exact fun g cells hg=>aQ.mono0 (fun b o x hx=>inv.imm b o x hx) (inv.glob g cells hg) (fun _ _ h=>h) (fun _ _ h=>h)
  ·intros;trivial
 have hargs0:bP (aQ M0.I jZ noT) (args.map (AV.nowS sty hp0 d)) vs.toList:=by
  refine⟨by simpa using hargs.1,fun i a v h1 h2=>?_⟩
  rw[List.getElem?_map] at h1
  cases ha:args[i]? with
  |none=>rw[ha] at h1;cases h1
  |some a0=>
   rw[ha] at h1
   simp only[Option.map_some,Option.some.injEq] at h1
   subst h1
   exact Dj (sty:=sty) inv (fun b o v h=>inv.imm b o v h) (fun _ _ _ _ _ _=>rfl) d (hargs.2 i a0 v ha h2)
 obtain⟨g1,g2⟩:=h F.plain ⟨hF.fn,hF.depth⟩ rfl W M0 w vs rfl rfl inv0 hargs0
 replace g2: ∀n,CallsIn F n P f vs w _:=g2
 refine⟨g1,fun n=>(g2 n).mono ?_⟩
 rintro e w' ⟨M',v,av,rfl,hle,inv',hv,hR⟩
 have hold: ∀b ob,w.heap[b]?=some ob->w'.heap[b]?=some ob:=fun b ob hb=>inv'.far b ob (hle.F b ob hb)
 refine⟨v,av,rfl,?_,hv.flat (hfl _ hR),hR⟩
 constructor
 ·exact fun b o x hx=>inv'.imm b o x (hle.I b o x (inv.imm b o x hx))
 ·exact fun b ob hb=>hold b ob (inv.far b ob hb)
 ·exact inv'.os
 ·exact inv'.tape
 ·exact inv'.out
 ·exact inv.fresh
 ·intro key blk hb
  obtain⟨b,ob,k1,k2,k3,k4,k5⟩:=inv.live key blk hb
  exact⟨b,ob,k1,hold b ob k2,k3,k4,k5⟩
 ·exact inv.inj
 ·exact inv.glob
 ·intros;trivial
theorem PC.callOkS {sty:Nat->Bool} {F:Fence} (hF:Free F) {W:World} {f:FuncId} {args:List AV} {R:AV->Prop} {st:St} (d:Nat) (h:PC P G f (args.map (AV.nowS sty st.hp d)) R) (hfl: ∀v,R v->v.flat=true) {K:AV->St->Prop} (hK: ∀v,R v->K v st):
  aP F P G W f args K st:=by
 intro M w vs inv hargs
 obtain⟨g1,g2⟩:=h.callS hF d hfl inv hargs
 refine⟨g1,fun n=>(g2 n).mono ?_⟩
 rintro e w' ⟨v,av,rfl,inv',hv,hR⟩
 exact⟨M,v,av,st,rfl,M.le_refl,inv',hv,hK av hR⟩
theorem Uz {F:Fence} (hF:Free F) {W:World} {rng:Bool} {d:Nat} (sty:Nat->Bool) (e:Nat) {f:FuncId} {args args':List AV} {R:AV->Prop} {st:St} (h:PC P G f args' R) (hfl: ∀v,R v->v.flat=true) (he:args.map (AV.nowS sty st.hp e)=args') {K:AV->St->Prop} (hK: ∀v,R v->K v st):
  (OZ F P G W rng d).call f args K st:=by
 subst he
 exact nG (PC.callOkS hF e h hfl hK)
theorem kQ {F:Fence} (hF:Free F) (hro:F.round=none) {W:World} {N:Nat} {nws:List Nat} {gds:List (Option Tmp)} {anc:List (List Nat)} {K:Nat->List AV->DH->Prop} {p:Nat} {rest:List kP} {d:Option Tmp} {log:List LE} {nx0:Nat} {s:List AV} {h:DH} {ak:List Nat} {un:Bool} {f:FuncId} {args args':List AV} {v:AV} {h1:List (Nat×List AV)} {m:Nat}
  (own:Own P G f args' v h1 m) (he:args.map AV.plain=args')
  (hk:qQ P G (fun f args st v st'=>aP F P G W f args (fun u su=>u=v/\su=st') st) N nws gds anc K (p+1) rest (⟨p,ak,[],true,true,true,nx0+N⟩::log) (nx0+N+m) (gQ s d (v.ren (up (nx0+N)))) (h++nD (nx0+N+m) nws (hC (hup (nx0+N) h1)))):
  yE P G (fun f args st v st'=>aP F P G W f args (fun u su=>u=v/\su=st') st) N nws gds anc K p rest d log nx0 s h ak un (some true) (some (.call f args)):=by
 have e1:hsel [] h=[]:=by simp [hsel]
 have e2:hkeep [] h=h:=by simp [hkeep]
 refine kH (st':=⟨hC (hup (nx0+N) h1),nx0+N+m⟩) [] (by rw[e1];rfl) (Own.call hF hro own he (st:=⟨[],nx0+N⟩) ⟨rfl,by rw[List.append_nil]⟩) ?_ (by show nx0+N<=nx0+N+m;omega) ?_
 ·show(hC (hup (nx0+N) h1)).all _=true
  rw[List.all_eq_true]
  intro x hx
  obtain⟨y,hy,rfl⟩:=List.mem_map.1 hx
  obtain⟨z,_,rfl⟩:=List.mem_map.1 hy
  simp
 ·rw[e2,List.append_nil];exact hk
end Go.Proofs.Pv
namespace Go.Proofs.Pv
open Go
variable {P:Program} {G:Nat->Option (List AV)}
theorem Inv.addLow {M1:Mem} {hp:Hp} {W w:World} {n n1:Nat} (inv:Inv G M1 (· <n1) hp W w) (hn:n<=n1) (hk: ∀k b,hp k=some b->n<=k) (hlow: ∀k,k<n->M1.L k=none/\M1.T k=none) (L:Lo) (T:To):
  M1.le {I:=M1.I,L:=fun k=>if k<n then L k else M1.L k,T:=fun k=>if k<n then T k else M1.T k,F:=M1.F}/\
  Inv G {I:=M1.I,L:=fun k=>if k<n then L k else M1.L k,T:=fun k=>if k<n then T k else M1.T k,F:=M1.F} (· <n1) hp W w:=by
 have hle:M1.le {I:=M1.I,L:=fun k=>if k<n then L k else M1.L k,T:=fun k=>if k<n then T k else M1.T k,F:=M1.F}:=by
  refine⟨fun _ _ _ h=>h,fun k b h=>?_,fun k x h=>?_,fun _ _ h=>h,fun _ _ _=>rfl⟩
  ·have: ¬k<n:=fun h'=>by rw[(hlow k h').1] at h;cases h
   simp only[if_neg this];exact h
  ·have: ¬k<n:=fun h'=>by rw[(hlow k h').2] at h;cases h
   simp only[if_neg this];exact h
 refine⟨hle,inv.imm,inv.far,inv.os,inv.tape,inv.out,fun key hkey=>?_,fun key blk hb=>?_,fun k1 k2 b1 b2 b h1 h2 h3 h4=>?_,inv.glob,fun _ _ _=>trivial⟩
 ·have: ¬key<n:=fun h=>hkey (by show key<n1;omega)
  simp only[if_neg this]
  exact inv.fresh key hkey
 ·have hge:=hk key blk hb
  obtain⟨b,ob,q1,q2,q3,q4,q5⟩:=inv.live key blk hb
  refine⟨b,ob,Mem.blockOf_mono hle q1,q2,q3.grow hle (fun ht b' e z hT o ho=>?_),q4,q5⟩
  cases blk<;>simp [aI.isTok] at ht
  cases ob<;>simp only[dB] at q3
  obtain⟨_,b1,e1,z1,r1,_,_,r4⟩:=q3
  rw[hT] at r1;cases r1
  exact r4 o ho
 ·have same: ∀k blk b,hp k=some blk->({I:=M1.I,L:=fun k=>if k<n then L k else M1.L k,T:=fun k=>if k<n then T k else M1.T k,F:=M1.F}:Mem).blockOf k blk=some b->M1.blockOf k blk=some b:=by
   intro k blk b hb hbo
   have hge:=hk k blk hb
   unfold Mem.blockOf at hbo ⊢
   simp only[if_neg (show¬k<n by omega)] at hbo
   exact hbo
  exact inv.inj k1 k2 b1 b2 b h1 h2 (same _ _ _ h1 h3) (same _ _ _ h2 h4)
def gW (v:AV) (h1:List (Nat×List AV)) (m:Nat):AV->St->Prop:=fun u su=> ∃st2,Less su st2/\ ∃f g:Nat->Option Nat,(∀k k',f k=some k'->g k'=some k)/\(∀k',¬k'<m->g k'=none)/\aG f st2.h (hC h1)/\u.unc.ren f=v
def dD (P:Program) (G:Nat->Option (List AV)) (f:FuncId) (args:List AV) (h0:List (Nat×aI)) (n0:Nat) (v:AV) (h1:List (Nat×List AV)) (m:Nat):Prop:=
 ∀F,Free F->F.round=none-> ∀W,aP F P G W f args (gW v h1 m) ⟨h0,n0⟩
theorem dD.call {F:Fence} (hF:Free F) (hro:F.round=none) {W:World} {f:FuncId} {args args':List AV} {h0:List (Nat×aI)} {n0 m:Nat} {v:AV} {h1:List (Nat×List AV)} (wd:dD P G f args' h0 n0 v h1 m) (r g:Nat->Option Nat) (fg: ∀k k',r k=some k'->g k'=some k) (top: ∀k',¬k'<n0->g k'=none)
  {st:St} (hh:aG r st.h h0) (he:args.map (AV.ren r)=args') {K:AV->St->Prop} (hK:K (v.ren (up st.nx)) ⟨hC (hup st.nx h1),st.nx+m⟩):aP F P G W f args K st:=by
 subst he
 intro M w vs inv hargs
 have inv0:Inv G (M.renG g) (· <n0) (hget h0) W w:=Inv.renG (h:=st.h) (nx:=st.nx) inv fg (fun k' hk'=>by rw[top k' hk'];exact⟨rfl,rfl⟩) hh
 have hL: ∀k k' b,r k=some k'->M.L k=some b->(M.renG g).L k'=some b:=fun k k' b h1 h2=>by simp only[Mem.renG,fg k k' h1,Option.bind_some];exact h2
 have hT: ∀k k' b,r k=some k'->M.T k=some b->(M.renG g).T k'=some b:=fun k k' b h1 h2=>by simp only[Mem.renG,fg k k' h1,Option.bind_some];exact h2
 have hargs0:bP (M.renG g).rel (args.map (AV.ren r)) vs.toList:=by
  refine⟨by simpa using hargs.1,fun i a v h1 h2=>?_⟩
  rw[List.getElem?_map] at h1
  cases ha:args[i]? with
  |none=>rw[ha] at h1;cases h1
  |some a0=>
   rw[ha] at h1
   simp only[Option.map_some,Option.some.injEq] at h1
   subst h1
   exact aQ.ren (hargs.2 i a0 v ha h2) hL hT
 obtain⟨g1,g2⟩:=wd F hF hro W (M.renG g) w vs inv0 hargs0
 refine⟨g1,fun n'=>(g2 n').mono ?_⟩
 rintro e w' ⟨M',u,av,su,rfl,hle,inv',hv,st2,⟨e1,e2⟩,f1,g1',fg1,top1,hh1,rfl⟩
 have invT:Inv G M' (· <su.nx) st2.hp W w':=inv'.trim e2
 have inv2:Inv G (M'.renG g1') (· <m) (hget (hC h1)) W w':=Inv.renG (h:=st2.h) (nx:=su.nx) invT fg1 (fun k' hk'=>by rw[top1 k' hk'];exact⟨rfl,rfl⟩) hh1
 have hv2:(M'.renG g1').rel (av.unc.ren f1) u:=aQ.ren (aQ.unc hv) (fun k k' b h1 h2=>by simp only[Mem.renG,fg1 k k' h1,Option.bind_some];exact h2) (fun k k' b h1 h2=>by simp only[Mem.renG,fg1 k k' h1,Option.bind_some];exact h2)
 let n:=st.nx
 let gu:Nat->Option Nat:=fun k=>if k<n then none else some (k - n)
 have fgu: ∀k k',up n k=some k'->gu k'=some k:=by
  intro k k' h
  simp only[up,Option.some.injEq] at h
  subst h
  show(if k+n<n then none else some (k+n - n))=some k
  rw[if_neg (by omega)];congr 1;omega
 have inv3:Inv G ((M'.renG g1').renG gu) (· <n+m) (hget (hC (hup n h1))) W w':=by
  refine Inv.renG (h:=hC h1) (nx:=m) (f:=up n) inv2 fgu (fun k' hk'=>?_) (fun k' b' hk'=>?_)
  ·have:gu k'=some (k' - n):=if_neg (by omega)
   rw[this]
   exact inv2.fresh (k' - n) (by show¬k' - n<m;omega)
  ·obtain⟨q1,b,q2,q3⟩:=vC hk'
   exact⟨k' - n,b,by simp only[up,Option.some.injEq];omega,q2,q3⟩
 have hv3:((M'.renG g1').renG gu).rel ((av.unc.ren f1).ren (up n)) u:=aQ.ren hv2 (fun k k' b h1 h2=>by show(gu k').bind _=_;rw[fgu k k' h1];exact h2) (fun k k' b h1 h2=>by show(gu k').bind _=_;rw[fgu k k' h1];exact h2)
 obtain⟨hle4,inv4⟩:=inv3.addLow (n:=n) (by omega) (fun k b hk=>(vC hk).1) (fun k hk=>by
  have:gu k=none:=if_pos hk
  show(gu k).bind _=none/\(gu k).bind _=none
  rw[this];exact⟨rfl,rfl⟩) M.L M.T
 refine⟨{I:=M'.I,L:=fun k=>if k<n then M.L k else((M'.renG g1').renG gu).L k,T:=fun k=>if k<n then M.T k else((M'.renG g1').renG gu).T k,F:=M'.F},u,_,⟨hC (hup st.nx h1),st.nx+m⟩,rfl,⟨fun b o v h=>hle.I b o v h,fun k b hk=>?_,fun k x hk=>?_,fun b ob h=>hle.F b ob h,fun b o h=>hle.IF b o h⟩,inv4,Mem.rel_mono hle4 hv3,hK⟩
 ·have:k<n:=by
   by_cases h':k<n
   ·exact h'
   ·rw[(inv.fresh k h').1] at hk;cases hk
  show(if k<n then M.L k else _)=_
  rw[if_pos this];exact hk
 ·have:k<n:=by
   by_cases h':k<n
   ·exact h'
   ·rw[(inv.fresh k h').2] at hk;cases hk
  show(if k<n then M.T k else _)=_
  rw[if_pos this];exact hk
theorem dD.cap {f:FuncId} {key n k n0 m:Nat} {rest:List AV} {h0:List (Nat×aI)} {cs:List AV} {v:AV} {h1:List (Nat×List AV)} (hk:hget h0 key=some (.cells cs))
  (hc: ∀c,n<=c->dD P G f (.mcap key 0 n c k::rest) (hset h0 key (.cells (cs++List.replicate (c*k - cs.length) .ud))) n0 v h1 m):dD P G f (.msl key 0 n k::rest) h0 n0 v h1 m:=by
 intro F hF hro W M w vs inv hargs
 obtain⟨hl,ha⟩:=hargs
 have hv0: ∃v0 vr,vs.toList=v0::vr:=by
  cases hvl:vs.toList with
  |nil=>rw[hvl] at hl;simp at hl
  |cons a b=>exact⟨a,b,rfl⟩
 obtain⟨v0,vr,hv0⟩:=hv0
 have h0':=ha 0 _ v0 rfl (by rw[hv0];rfl)
 cases h0' with
 | @msl _ _ _ _ _ _ b c z hL hT hz hcn=>
  have inv2:Inv G M (· <n0) (hget (hset h0 key (.cells (cs++List.replicate (c*k - cs.length) .ud)))) W w:=by
   rw[zC]
   exact inv.pad hk hT (by omega)
  refine hc c hcn F hF hro W M w vs inv2 ⟨by simpa using hl,fun i a v h1 h2=>?_⟩
  cases i with
  |zero=>
   simp only[List.getElem?_cons_zero,Option.some.injEq] at h1
   subst h1
   rw[hv0] at h2
   simp only[List.getElem?_cons_zero,Option.some.injEq] at h2
   subst h2
   exact .mcap hL hT hz hcn
  |succ i=>exact ha (i+1) a v h1 h2
theorem dD.intro (d:Nat) (hmix:P.follows .mixedOrders=true) (hname: ∀(f:Nat) (fn:Func),P.funcs[f]?=some fn->fn.name≠ "runtime.NumGoroutine") {f:FuncId} {fn:Func} {c:Code} {args:List AV} {h0:List (Nat×aI)} {n0 m:Nat} {v:AV} {h1:List (Nat×List AV)} (hf:P.funcs[f]?=some fn) (hb:fn.body=some c)
  (h: ∀(F:Fence),Free F->F.round=none-> ∀(W:World),fG P G (OZ F P G W true d) c (mO P (OZ F P G W true d) fn.results.toList (fun v st=>(v,st)) (gW v h1 m)) (uA fn.ntmps args) ⟨h0,n0⟩):dD P G f args h0 n0 v h1 m:=by
 intro F hF hro W
 have hpl:F.plain=F:=by cases F;simp only[Fence.plain] at hro ⊢;simp_all
 refine wO (ok:=id) hF hro hname (Jc hmix W d true F hF hpl (fun _=>hro)) (fin:=fun _ _ v st=>(v,st)) (fun _ _ _ _ _ _ _ _ inv hv=>⟨_,Mem.le_refl _,inv,hv⟩) ?_
 unfold Bh
 rw[hf]
 simp only[hb]
 exact h F hF hro W
theorem gW.one {key n c k nx:Nat} {cs rest cs':List AV} {h:List (Nat×aI)} (hk:hget h key=some (.cells (cs++rest))) (hc:cs.map (AV.ren fun q=>if q=key then some 0 else none)=cs'):gW (.msl 0 0 n k) [(0,cs')] 1 (.mcap key 0 n c k) ⟨h,nx⟩:=by
 refine⟨⟨[(key,.cells cs)],nx⟩,⟨rfl,fun q b hq=>?_⟩,(fun q=>if q=key then some 0 else none),(fun q=>if q=0 then some key else none),fun q q' hq=>?_,fun q' hq'=>if_neg (by omega),?_,?_⟩
 ·simp only[St.hp,hget] at hq ⊢
  split at hq
  ·rename_i e
   simp only[Option.some.injEq] at hq
   subst e;subst hq
   exact⟨_,hk,.inr ⟨cs,rest,rfl,rfl⟩⟩
  ·cases hq
 ·by_cases e:q=key
  ·subst e
   simp only[if_true,Option.some.injEq] at hq
   subst hq;simp
  ·simp only[if_neg e] at hq;cases hq
 ·intro k' b' h'
  simp only[hC,List.map_cons,List.map_nil,hget] at h'
  split at h'
  ·rename_i e
   simp only[Option.some.injEq] at h'
   subst e;subst h'
   exact⟨key,.cells cs,by simp,by simp [hget],by simp only[aI.ren,hc]⟩
  ·cases h'
 ·simp [AV.unc,AV.ren]
theorem gW.oneM {key n k nx:Nat} {cs rest cs':List AV} {h:List (Nat×aI)} (hk:hget h key=some (.cells (cs++rest))) (hc:cs.map (AV.ren fun q=>if q=key then some 0 else none)=cs'):gW (.msl 0 0 n k) [(0,cs')] 1 (.msl key 0 n k) ⟨h,nx⟩:=by
 obtain⟨st2,h1,f,g,h2,h3,h4,h5⟩:=gW.one (n:=n) (c:=n) (k:=k) (nx:=nx) hk hc
 exact⟨st2,h1,f,g,h2,h3,h4,by simpa [AV.unc] using h5⟩
end Go.Proofs.Pv
namespace Go.Proofs.Pv
open Go
variable {P:Program} {G:Nat->Option (List AV)}
theorem Zb {W w:World} {M:Mem} {hp:Hp} {al:Nat->Prop} (inv:Inv G M al hp W w) {q b:Nat} {cs:List AV} (h:hp q=some (.cells cs)) (hL:M.L q=some b): ∃(c:Array Value) (e:TypeId),w.heap[b]?=some (.cells c e (0,0))/\cs.length<=c.size:=by
 obtain⟨b',ob,g1,g2,g3,g4,g5⟩:=inv.live _ _ h
 have hb:b'=b:=by simpa [Mem.blockOf,aI.isTok,hL] using g1.symm
 subst hb
 cases ob<;>simp only[dB] at g3
 rename_i c e fr
 obtain⟨rfl,k1,_⟩:=g3
 exact⟨c,e,g2,k1⟩
theorem aJy {W w:World} {M:Mem} {hp:Hp} {al:Nat->Prop} (inv:Inv G M al hp W w) {q1 q2 b1 b2:Nat} {cs1 cs2:List AV} (h1:hp q1=some (.cells cs1)) (h2:hp q2=some (.cells cs2)) (hne:q1≠q2) (hL1:M.L q1=some b1) (hL2:M.L q2=some b2):b1≠b2:=by
 intro e
 subst e
 exact hne (inv.inj q1 q2 _ _ b1 h1 h2 (by simp [Mem.blockOf,aI.isTok,hL1]) (by simp [Mem.blockOf,aI.isTok,hL2]))
theorem aMf {w:World} {t r e:TypeId} {k:Nat} (ht:P.underlying t=some (.slice e)) (hk:sz P e=some k) {b1 b2 o1 o2 n1 n2 c1 c2:Nat} {d1 d2:Array Value} {e1 e2:TypeId} (h1:w.heap[b1]?=some (.cells d1 e1 (0,0))) (h2:w.heap[b2]?=some (.cells d2 e2 (0,0))) (hne:b1≠b2) (hpos:0<d2.size):
  (Extern.SlicesOverlaps.overlaps #[t,t] #[r] #[.slice (some ⟨b1,o1,none⟩) n1 c1,.slice (some ⟨b2,o2,none⟩) n2 c2]).run P w= .ok (.bool false) w:=by
 refine Lib.run_overlaps_apart w t r e ht k (fun w=>run_sizeOf hk) ⟨b1,o1,none⟩ ⟨b2,o2,none⟩ n1 c1 n2 c2 hne e1 e2 d1.size d2.size ?_ ?_ (by omega) ?_ ?_
 ·simp [World.shape?,h1]
 ·simp [World.shape?,h2]
 ·simp [World.frozen?,h1]
 ·simp [World.frozen?,h1]
section
variable {f:FuncId} {fn:Func} {t r e:TypeId} {k:Nat} (hf:P.funcs[f]?=some fn) (hname:(fn.name== "runtime.NumGoroutine")=false) (hb:fn.body.isNone=true) (hn:Extern.findNext fn=none) (he:Extern.find fn=some (Extern.SlicesOverlaps.overlaps #[t,t] #[r])) (ht:P.underlying t=some (.slice e)) (hk:sz P e=some k) {W:World} {K:AV->St->Prop} {st:St}
include hf hname hb hn he ht hk
theorem yU {A B:AV} {q1 q2:Nat} {cs1 cs2:List AV} (h1:st.hp q1=some (.cells cs1)) (h2:st.hp q2=some (.cells cs2)) (hne:q1≠q2) (hpos:0<cs2.length)
  (hA: ∀ {M:Mem} {v},M.rel A v-> ∃b o n c,v= .slice (some ⟨b,o,none⟩) n c/\M.L q1=some b) (hB: ∀ {M:Mem} {v},M.rel B v-> ∃b o n c,v= .slice (some ⟨b,o,none⟩) n c/\M.L q2=some b) (hK:K (.bool false) st):aLe P G W f [A,B] K st:=by
 refine⟨⟨fn,hf,by simpa using hb⟩,fun M w vs inv hargs=>?_⟩
 obtain⟨hl,ha⟩:=hargs
 obtain⟨l⟩:=vs
 match l,hl,ha with
 |[v1,v2],_,ha=>
  obtain⟨b1,o1,n1,c1,rfl,hL1⟩:=hA (ha 0 _ v1 rfl rfl)
  obtain⟨b2,o2,n2,c2,rfl,hL2⟩:=hB (ha 1 _ v2 rfl rfl)
  obtain⟨d1,e1,g1,_⟩:=Zb inv h1 hL1
  obtain⟨d2,e2,g2,g3⟩:=Zb inv h2 hL2
  refine⟨.bool false,w,M,.bool false,st,?_,M.le_refl,inv,.bool,hK⟩
  rw[run_callFunc_extern hf hname hb hn he]
  have:=aMf (P:=P) (r:=r) (o1:=o1) (o2:=o2) (n1:=n1) (n2:=n2) (c1:=c1) (c2:=c2) ht hk g1 g2 (aJy inv h1 h2 hne hL1 hL2) (by omega)
  show((Extern.SlicesOverlaps.overlaps #[t,t] #[r] #[.slice (some ⟨b1,o1,none⟩) n1 c1,.slice (some ⟨b2,o2,none⟩) n2 c2]).run P w).andThen _=_
  rw[this];rfl
end
theorem Ld {M:Mem} {q o n k:Nat} {v:Value} (h:M.rel (.msl q o n k) v): ∃b o n c,v= .slice (some ⟨b,o,none⟩) n c/\M.L q=some b:=by
 cases h with
 |msl hL hT hz hc=>exact⟨_,_,_,_,rfl,hL⟩
theorem Fp {M:Mem} {q o n c k:Nat} {v:Value} (h:M.rel (.mcap q o n c k) v): ∃b o n c,v= .slice (some ⟨b,o,none⟩) n c/\M.L q=some b:=by
 cases h with
 |mcap hL hT hz hc=>exact⟨_,_,_,_,rfl,hL⟩
end Go.Proofs.Pv
namespace Go.Proofs.Pv
open Go
variable {P:Program} {G:Nat->Option (List AV)}
def RdK (v:AV) (hl:List (Nat×aI)):AV->St->Prop:=fun u su=>u=v/\ ∀k b,hget hl k=some b->su.hp k=some b
theorem lK {v:AV} {hl:List (Nat×aI)} {u:AV} {su:St}:RdK v hl u su=(u=v/\ ∀k b,hget hl k=some b->su.hp k=some b):=rfl
theorem Rd.introZ (d:Nat) (n0:Nat) (hmix:P.follows .mixedOrders=true) (hname: ∀(f:Nat) (fn:Func),P.funcs[f]?=some fn->fn.name≠ "runtime.NumGoroutine") {f:FuncId} {fn:Func} {c:Code} {args:List AV} {v:AV} {hl:List (Nat×aI)} (hf:P.funcs[f]?=some fn) (hb:fn.body=some c)
  (hv: ∀f:Nat->Option Nat,(∀k b,hget hl k=some b->f k=some k)->v.ren f=v)
  (h: ∀(m:Nat) (F:Fence),Free F->F.round=none-> ∀(W:World),fG P G (OZ F P G W true d) c (mO P (OZ F P G W true d) fn.results.toList (fun v st=>(v,st)) (RdK v hl)) (uA fn.ntmps args) ⟨hl,m+n0⟩):Rd P G f args (hget hl) v:=by
 refine Rd.intro n0 hv fun nx hnx F hF hro W=>?_
 obtain⟨m,rfl⟩: ∃m,nx=m+n0:=⟨nx - n0,by omega⟩
 have hpl:F.plain=F:=by cases F;simp only[Fence.plain] at hro ⊢;simp_all
 refine wO (ok:=id) hF hro hname (Jc hmix W d true F hF hpl (fun _=>hro)) (fin:=fun _ _ v st=>(v,st)) (fun _ _ _ _ _ _ _ _ inv hv=>⟨_,Mem.le_refl _,inv,hv⟩) ?_
 unfold Bh
 rw[hf]
 simp only[hb]
 exact h m F hF hro W
def Gv (v:AV) (st:St):AV×St:=((Rh v st).1.strip0,(Rh v st).2)
theorem aTf:aJx G Gv:=by
 intro W M w v u st inv hv
 obtain⟨M',h1,h2,h3⟩:=aU0 inv hv
 exact⟨M',h1,h2,h3.strip0⟩
theorem Rd.introF (d:Nat) (n0:Nat) (hmix:P.follows .mixedOrders=true) (hname: ∀(f:Nat) (fn:Func),P.funcs[f]?=some fn->fn.name≠ "runtime.NumGoroutine") {f:FuncId} {fn:Func} {c:Code} {args:List AV} {v:AV} {hl:List (Nat×aI)} (hf:P.funcs[f]?=some fn) (hb:fn.body=some c)
  (hv: ∀f:Nat->Option Nat,(∀k b,hget hl k=some b->f k=some k)->v.ren f=v)
  (h: ∀(m:Nat) (F:Fence),Free F->F.round=none-> ∀(W:World),fG P G (OZ F P G W true d) c (mO P (OZ F P G W true d) fn.results.toList Gv (RdK v hl)) (uA fn.ntmps args) ⟨hl,m+n0⟩):Rd P G f args (hget hl) v:=by
 refine Rd.intro n0 hv fun nx hnx F hF hro W=>?_
 obtain⟨m,rfl⟩: ∃m,nx=m+n0:=⟨nx - n0,by omega⟩
 have hpl:F.plain=F:=by cases F;simp only[Fence.plain] at hro ⊢;simp_all
 refine wO (ok:=id) hF hro hname (Jc hmix W d true F hF hpl (fun _=>hro)) (fin:=fun _ _=>Gv) (fun _ _=>aTf) ?_
 unfold Bh
 rw[hf]
 simp only[hb]
 exact h m F hF hro W
theorem aQ.nilMsl {I:jY} {L:Lo} {T:To} {key off k:Nat} {v:Value} (h:aQ I L T (.msl key off 0 k) v):aQ I L T (.sl k [] .none) v:=by
 cases h with
 | @msl _ _ _ _ _ _ b c z hL hT hz hc=>
  exact aQ.sl (rows:=[]) (b:=b) (o:=0) (fun _=>Go.undef) (Nat.zero_le _) (fun h=>absurd rfl h) (fun q hq=>by simp at hq) (fun r hr=>by cases hr) (fun r hr=>by cases hr) (fun j i hj=>by simp at hj) trivial
theorem Rd.nilMsl {f:FuncId} {rest:List AV} {hr:Hp} {v:AV} {key off k:Nat} (h:Rd P G f (.sl k [] .none::rest) hr v):Rd P G f (.msl key off 0 k::rest) hr v:=by
 intro F hF W al hp0 M w vs nx hal hsub inv hargs
 refine h F hF W al hp0 M w vs nx hal hsub inv ⟨by simpa using hargs.1,fun i a u h1 h2=>?_⟩
 cases i with
 |zero=>
  simp only[List.getElem?_cons_zero,Option.some.injEq] at h1
  subst h1
  exact(hargs.2 0 _ u rfl h2).nilMsl
 |succ i=>exact hargs.2 (i+1) a u (by simpa using h1) h2
end Go.Proofs.Pv
namespace Go.Proofs.Pv
open Go
variable {P:Program} {G:Nat->Option (List AV)}
open Classical in
theorem PC.of_ownT {sty:Nat->Bool} {f:FuncId} {args:List AV} {vs0:List AV} {h1:List (Nat×List AV)} {m:Nat} (own:Own P G f args (.tup vs0) h1 m) (d:Nat) {r:List AV} (hr:vs0.map (AV.nowS sty (hget (hC h1)) d)=r):PC P G f args (fun u=>u= .tup r):=by
 intro F hF hro W M w vs hL hT inv hargs
 have inv0:Inv G M (fun k=>k< (⟨[],0⟩:St).nx) (⟨[],0⟩:St).hp W w:=
  ⟨inv.imm,inv.far,inv.os,inv.tape,inv.out,fun key _=>by rw[hL,hT];exact⟨rfl,rfl⟩,fun key blk h=>by simp [St.hp,hget] at h,fun k1 k2 b1 b2 b h=>by simp [St.hp,hget] at h,inv.glob,fun _ _ _=>trivial⟩
 obtain⟨g1,g2⟩:=own F hF hro W M w vs inv0 (bP.mono (fun a v hv=>hv.of_pure) hargs)
 refine⟨g1,fun n=>(g2 n).mono ?_⟩
 rintro e w' ⟨M',u,av,su,rfl,hle,inv',hrel,rfl,rfl⟩
 let live:Nat->Prop:=fun b=> ∃key cs,hget (hC h1) key=some (.cells cs)/\M'.L key=some b
 let J:jY:=fun b o=>if live b then w'.cell? ⟨b,o,none⟩ else M'.I b o
 have hlv: ∀b,live b->M'.F b=none/\ ∀o,M'.I b o=none:=by
  rintro b ⟨key,cs,k1,k2⟩
  obtain⟨q,ob,q1,q2,q3,q4,q5⟩:=inv'.live key (.cells cs) k1
  have:q=b:=by simpa [Mem.blockOf,aI.isTok,k2] using q1.symm
  subst this
  exact⟨q4,q5 rfl⟩
 have hJ0: ∀b o v,M'.I b o=some v->J b o=some v:=by
  intro b o v hv
  by_cases hb:live b
  ·rw[(hlv b hb).2 o] at hv;cases hv
  ·show(if live b then _ else M'.I b o)=_
   rw[if_neg hb];exact hv
 have hrel':aQ J jZ noT (.tup r) u:=by
  subst hr
  cases hrel with
  | tup hs hr0=>
   refine .tup (by simpa using hs) (fun i h1' h2'=>?_)
   have hx:=hr0 i (by simpa using h1') (by simpa using h2')
   have:=Dj (sty:=sty) inv' hJ0 (fun key cs b k1 k2 o=>by
    show(if live b then _ else M'.I b o)=_
    rw[if_pos ⟨key,cs,k1,k2⟩]) d hx
   simp only[List.getElem_map];exact this
 refine⟨{I:=J,L:=M'.L,T:=M'.T,F:=M'.F},u,_,rfl,⟨fun b o v h=>hJ0 b o v (hle.I b o v h),hle.L,hle.T,hle.F,fun b o hf=>?_⟩,?_,hrel',rfl⟩
 ·have hb: ¬live b:=fun hb=>by
   have:=(hlv b hb).1
   cases hF':M.F b with
   |none=>exact hf hF'
   |some ob=>rw[hle.F b ob hF'] at this;cases this
  show(if live b then _ else M'.I b o)=_
  rw[if_neg hb];exact hle.IF b o hf
 ·refine⟨fun b o v h=>?_,inv'.far,inv'.os,inv'.tape,inv'.out,fun key hk=>absurd trivial hk,fun key blk h=>by simp at h,fun k1 k2 b1 b2 b h=>by simp at h,fun g cells hg=>?_,fun _ _ _=>trivial⟩
  ·by_cases hb:live b
   ·have h':(if live b then w'.cell? ⟨b,o,none⟩ else M'.I b o)=some v:=h
    rw[if_pos hb] at h';exact h'
   ·have h':(if live b then w'.cell? ⟨b,o,none⟩ else M'.I b o)=some v:=h
    rw[if_neg hb] at h';exact inv'.imm b o v h'
  ·exact aQ.mono0 hJ0 (inv'.glob g cells hg) (fun _ _ h=>h) (fun _ _ h=>h)
end Go.Proofs.Pv
