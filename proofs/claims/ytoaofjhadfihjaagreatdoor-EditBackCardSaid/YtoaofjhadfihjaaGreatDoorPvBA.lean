/-
The abstract machine, part BA: open proofs whose loops begin each round with the same keys: what a round has laid is forgotten, what it has made longer is named anew.
Conditions: none but those that each statement names.
-/
import Derived.Test.YtoaofjhadfihjaaGreatDoorPvV
import Derived.IntWalk
set_option linter.unusedVariables false
set_option linter.unusedSimpArgs false
set_option maxRecDepth 100000
set_option maxHeartbeats 16000000
namespace Go.Proofs.Pv
open Go
variable {P:Program} {G:Nat->Option (List AV)}
def bI (n:Nat):List (Nat×Nat)->Nat->Option Nat
 |[],k=>if k<n then some k else none
 |p::r,k=>if k=p.1 then some p.2 else bI n r k
mutual
def AV.ren (f:Nat->Option Nat):AV->AV
 | .ptr k o=>match f k with
  |some k'=> .ptr k' o
  |none=> .ud
 | .msl k a b c=>match f k with
  |some k'=> .msl k' a b c
  |none=> .ud
 | .mcap k a b c d=>match f k with
  |some k'=> .mcap k' a b c d
  |none=> .ud
 | .map k=>match f k with
  |some k'=> .map k'
  |none=> .ud
 | .yld k=>match f k with
  |some k'=> .yld k'
  |none=> .ud
 | .sl n r (.tok k)=>match f k with
  |some k'=> .sl n r (.tok k')
  |none=> .sl n r .none
 | .fn g a b=> .fn g (AV.renL f a) (AV.renL f b)
 | .agg cs=> .agg (AV.renL f cs)
 | .tup cs=> .tup (AV.renL f cs)
 | .ifc t v=> .ifc t (AV.ren f v)
 |x=>x
def AV.renL (f:Nat->Option Nat):List AV->List AV
 |[]=>[]
 |x::xs=>AV.ren f x::AV.renL f xs
end
theorem AV.renL_eq (f:Nat->Option Nat): ∀l,AV.renL f l=l.map (AV.ren f)
 |[]=>rfl
 |x::xs=>by simp only[AV.renL,List.map_cons,AV.renL_eq f xs]
theorem aQ.ren {I:jY} {f:Nat->Option Nat} {L:Lo} {T:To} {a:AV} {v:Value} (h:aQ I L T a v):
  ∀ {L':Lo} {T':To},(∀k k' b,f k=some k'->L k=some b->L' k'=some b)->(∀k k' x,f k=some k'->T k=some x->T' k'=some x)->aQ I L' T' (a.ren f) v:=by
 induction h with
 |ud=>intros;exact .ud
 |int=>intros;exact .int
 |bool=>intros;exact .bool
 |str=>intros;exact .str
 | @sl L T k c A rows t b o vs hc hA hI' hk hP hR ht ih=>
  intro L' T' hL hT
  by_cases htk: ∃q,t= .tok q
  ·obtain⟨q,rfl⟩:=htk
   simp only[AV.ren]
   split
   ·rename_i q' hq
    exact .sl vs hc hA hI' hk hP hR ⟨ht.1,ht.2.1,hT _ _ _ hq ht.2.2⟩
   ·exact .sl vs hc hA hI' hk hP hR trivial
  ·have e:(AV.sl k rows t).ren f= .sl k rows t:=by cases t<;>first|rfl|exact absurd ⟨_,rfl⟩ htk
   rw[e]
   refine .sl vs hc hA hI' hk hP hR ?_
   cases t<;>first|exact ht|exact absurd ⟨_,rfl⟩ htk
 |msl h1 h2 h3 h4=>
  intro L' T' hL hT
  simp only[AV.ren]
  split
  ·rename_i q' hq;exact .msl (hL _ _ _ hq h1) (hT _ _ _ hq h2) h3 h4
  ·exact .ud
 |mcap h1 h2 h3 h4=>
  intro L' T' hL hT
  simp only[AV.ren]
  split
  ·rename_i q' hq;exact .mcap (hL _ _ _ hq h1) (hT _ _ _ hq h2) h3 h4
  ·exact .ud
 |vp vs hI' hR ih=>intros;exact .vp vs hI' hR
 |ptr h1=>
  intro L' T' hL hT
  simp only[AV.ren]
  split
  ·rename_i q' hq;exact .ptr (hL _ _ _ hq h1)
  ·exact .ud
 |nilp=>intros;exact .nilp
 |fn hf hc _ _ ih1 ih2=>
  intro L' T' hL hT
  simp only[AV.ren,AV.renL_eq]
  exact .fn (by simpa using hf) (by simpa using hc) (fun i h h'=>by simpa using ih1 i (by simpa using h) h' hL hT) (fun i h h'=>by simpa using ih2 i (by simpa using h) h' hL hT)
 |yld h1=>
  intro L' T' hL hT
  simp only[AV.ren]
  split
  ·rename_i q' hq;exact .yld (hL _ _ _ hq h1)
  ·exact .ud
 |nilf=>intros;exact .nilf
 |map h1=>
  intro L' T' hL hT
  simp only[AV.ren]
  split
  ·rename_i q' hq;exact .map (hL _ _ _ hq h1)
  ·exact .ud
 |nilm=>intros;exact .nilm
 |agg hs _ ih=>
  intro L' T' hL hT
  simp only[AV.ren,AV.renL_eq]
  exact .agg (by simpa using hs) (fun i h h'=>by simpa using ih i (by simpa using h) h' hL hT)
 |tup hs _ ih=>
  intro L' T' hL hT
  simp only[AV.ren,AV.renL_eq]
  exact .tup (by simpa using hs) (fun i h h'=>by simpa using ih i (by simpa using h) h' hL hT)
 |nili=>intros;exact .nili
 |ifc _ ih=>intro L' T' hL hT;exact .ifc (ih hL hT)
def ME.ren (f:Nat->Option Nat) (e:ME):ME:=⟨e.key.ren f,e.val.ren f,e.born⟩
def aI.ren (f:Nat->Option Nat):aI->Option aI
 | .cells cs=>some (.cells (cs.map (AV.ren f)))
 | .map es c=>some (.map (es.map (ME.ren f)) c)
 | .mit m a b c=>match f m with
  |some m'=>some (.mit m' a b c)
  |none=>none
 | .loop st pd s ps as bo d=>match f d with
  |some d'=>some (.loop st pd (s.map (AV.ren f)) ps as bo d')
  |none=>none
 |x=>some x
def Vx (n:Nat) (f:Nat->Option Nat) (srcs:List Nat):List (Nat×aI)->Option (List (Nat×aI))
 |[]=>some []
 |(k,b)::r=>if k<n/\k ∉ srcs then(match b.ren f,Vx n f srcs r with
  |some b',some r'=>some ((k,b')::r')
  |_,_=>none) else Vx n f srcs r
def Zy (f:Nat->Option Nat) (h:List (Nat×aI)):List (Nat×Nat)->Option (List (Nat×aI))
 |[]=>some []
 | (a,k)::r=>match hget h a with
  |some b=>(match b.ren f,Zy f h r with
   |some b',some r'=>some ((k,b')::r')
   |_,_=>none)
  |none=>none
def qR (s:List AV):List (Nat×Nat)->List (Nat×Nat)
 |[]=>[]
 |(t,k)::r=>match s.getD t .ud with
  | .sl _ _ (.tok q)=>(q,k)::qR s r
  | .msl q _ _ _=>(q,k)::qR s r
  | .mcap q _ _ _ _=>(q,k)::qR s r
  | .ptr q _=>(q,k)::qR s r
  | .map q=>(q,k)::qR s r
  |_=>qR s r
def Po (n n1:Nat):List (Nat×Nat)->Bool
 |[]=>decide (n<=n1)
 |(a,b)::r=>decide (n<=b/\b<n1) && (r.all fun p=>!(decide (p.1=a)) && !(decide (p.2=b))) && Po n n1 r
def Fr.norm (n:Nat) (mask:List Bool) (accs:List (Nat×Nat)) (fr:Fr):Fr:=⟨(kE mask fr.s).map (AV.ren (bI n (qR fr.s accs))),fr.marks⟩
def St.norm (n n1:Nat) (accs:List (Nat×Nat)) (fr:Fr) (st:St):Option St:=
 if(Po n n1 (qR fr.s accs) && fr.marks.all fun k=>decide (k<n))=true then
  (match Zy (bI n (qR fr.s accs)) st.h (qR fr.s accs),Vx n (bI n (qR fr.s accs)) ((qR fr.s accs).map (·.1)) st.h with
  |some a,some b=>some ⟨a++b,n1⟩
  |_,_=>none)
 else none
def Dz:List (Nat×Nat)->Nat->Option Nat
 |[],_=>none
 |p::r,k=>if k=p.2 then some p.1 else Dz r k
def Ho (n:Nat) (ρ:List (Nat×Nat)) {α:Type} (L:Nat->Option α):Nat->Option α:=fun k=>if k<n then L k else(match Dz ρ k with
 |some a=>L a
 |none=>none)
theorem Yf {n:Nat}: ∀ {ρ:List (Nat×Nat)} {k k':Nat},bI n ρ k=some k'->(k,k')∈ρ\/(k'=k/\k<n)
 |[],k,k',h=>by
  simp only[bI] at h
  split at h
  ·rename_i hk;cases h;exact .inr ⟨rfl,hk⟩
  ·cases h
 | (a,b)::r,k,k',h=>by
  simp only[bI] at h
  split at h
  ·rename_i e;cases h;subst e;exact .inl (by simp)
  ·rcases Yf h with h|h
   ·exact .inl (List.mem_cons_of_mem _ h)
   ·exact .inr h
theorem Pq {n n1:Nat}: ∀ {ρ:List (Nat×Nat)},Po n n1 ρ=true->n<=n1/\(∀p∈ρ,n<=p.2/\p.2<n1)/\(∀p∈ρ,∀q∈ρ,p.1=q.1->p=q)/\(∀p∈ρ,∀q∈ρ,p.2=q.2->p=q)
 |[],h=>by simp [Po] at h;exact⟨h,by simp,by simp,by simp⟩
 | (a,b)::r,h=>by
  simp only[Po,Bool.and_eq_true,decide_eq_true_eq,List.all_eq_true,Bool.not_eq_true',decide_eq_false_iff_not] at h
  obtain⟨⟨h1,h2⟩,h3⟩:=h
  obtain⟨g0,g1,g2,g3⟩:=Pq h3
  refine⟨g0,?_,?_,?_⟩
  ·intro p hp
   rcases List.mem_cons.1 hp with rfl|hp
   ·exact h1
   ·exact g1 p hp
  ·intro p hp q hq e
   rcases List.mem_cons.1 hp with rfl|hp
   ·rcases List.mem_cons.1 hq with rfl|hq
    ·rfl
    ·exact absurd e.symm (h2 q hq).1
   ·rcases List.mem_cons.1 hq with rfl|hq
    ·exact absurd e (h2 p hp).1
    ·exact g2 p hp q hq e
  ·intro p hp q hq e
   rcases List.mem_cons.1 hp with rfl|hp
   ·rcases List.mem_cons.1 hq with rfl|hq
    ·rfl
    ·exact absurd e.symm (h2 q hq).2
   ·rcases List.mem_cons.1 hq with rfl|hq
    ·exact absurd e (h2 p hp).2
    ·exact g3 p hp q hq e
theorem Px: ∀ {ρ:List (Nat×Nat)} {k a:Nat},Dz ρ k=some a->(a,k)∈ρ
 |[],k,a,h=>by simp [Dz] at h
 |(x,y)::r,k,a,h=>by
  simp only[Dz] at h
  split at h
  ·rename_i e;cases h;subst e;simp
  ·exact List.mem_cons_of_mem _ (Px h)
theorem aIx {ρ:List (Nat×Nat)} (hu: ∀p∈ρ,∀q∈ρ,p.2=q.2->p=q) {a k:Nat} (h:(a,k)∈ρ):Dz ρ k=some a:=by
 have: ∃x,Dz ρ k=some x:=by
  clear hu
  induction ρ with
  |nil=>cases h
  | cons p r ih=>
   simp only[Dz]
   split
   ·exact⟨_,rfl⟩
   ·rename_i hne
    rcases List.mem_cons.1 h with rfl|h
    ·exact absurd rfl hne
    ·exact ih h
 obtain⟨x,hx⟩:=this
 have:=hu _ (Px hx) _ h rfl
 cases this
 exact hx
theorem qH {n n1:Nat} {ρ:List (Nat×Nat)} (hf:Po n n1 ρ=true) {α:Type} {L:Nat->Option α} {k k':Nat} {b:α} (h:bI n ρ k=some k') (hb:L k=some b):Ho n ρ L k'=some b:=by
 obtain⟨g0,g1,g2,g3⟩:=Pq hf
 rcases Yf h with h|⟨rfl,h⟩
 ·have:=g1 _ h
  unfold Ho
  have: ¬k'<n:=by simp only at this;omega
  rw[if_neg this,aIx g3 h]
  exact hb
 ·unfold Ho
  rw[if_pos h];exact hb
def Mem.named (n:Nat) (ρ:List (Nat×Nat)) (M:Mem):Mem:= {I:=M.I,L:=Ho n ρ M.L,T:=Ho n ρ M.T,F:=M.F}
theorem Mem.le_named {n:Nat} {ρ:List (Nat×Nat)} {M0 M:Mem} (h:M0.le M) (hf: ∀k,¬k<n->M0.L k=none/\M0.T k=none):M0.le (M.named n ρ):=by
 refine⟨h.I,fun k b hk=>?_,fun k x hk=>?_,h.F,h.IF⟩
 ·have:k<n:=by
   by_cases h':k<n
   ·exact h'
   ·rw[(hf k h').1] at hk;cases hk
  simp only[Mem.named,Ho,if_pos this]
  exact h.L k b hk
 ·have:k<n:=by
   by_cases h':k<n
   ·exact h'
   ·rw[(hf k h').2] at hk;cases hk
  simp only[Mem.named,Ho,if_pos this]
  exact h.T k x hk
theorem aC5 {f:Nat->Option Nat} {h:List (Nat×aI)}: ∀ {ρ:List (Nat×Nat)} {r:List (Nat×aI)} {k:Nat} {b':aI},Zy f h ρ=some r->hget r k=some b'-> ∃a b,(a,k)∈ρ/\hget h a=some b/\b.ren f=some b'
 |[],r,k,b',hh,hg=>by simp [Zy] at hh;subst hh;simp [hget] at hg
 | (a,q)::ρ,r,k,b',hh,hg=>by
  simp only[Zy] at hh
  split at hh
  ·rename_i b hb
   split at hh
   ·rename_i b1 r1 h1 h2
    simp only[Option.some.injEq] at hh;subst hh
    simp only[hget] at hg
    split at hg
    ·rename_i e
     simp only[Option.some.injEq] at hg;subst hg;subst e
     exact⟨a,b,by simp,hb,h1⟩
    ·obtain⟨a',b2,g1,g2,g3⟩:=aC5 h2 hg
     exact⟨a',b2,List.mem_cons_of_mem _ g1,g2,g3⟩
   ·cases hh
  ·cases hh
theorem Tv {n:Nat} {f:Nat->Option Nat} {srcs:List Nat}: ∀ {h r:List (Nat×aI)} {k:Nat} {b':aI},Vx n f srcs h=some r->hget r k=some b'->k<n/\k ∉ srcs/\ ∃b,hget h k=some b/\b.ren f=some b'
 |[],r,k,b',hh,hg=>by simp [Vx] at hh;subst hh;simp [hget] at hg
 | (q,b)::h,r,k,b',hh,hg=>by
  simp only[Vx] at hh
  split at hh
  ·rename_i hq
   split at hh
   ·rename_i b1 r1 h1 h2
    simp only[Option.some.injEq] at hh;subst hh
    simp only[hget] at hg
    split at hg
    ·rename_i e
     simp only[Option.some.injEq] at hg;subst hg;subst e
     exact⟨hq.1,hq.2,b,by simp [hget],h1⟩
    ·rename_i hne
     obtain⟨g1,g2,b2,g3,g4⟩:=Tv h2 hg
     exact⟨g1,g2,b2,by simp [hget,hne,g3],g4⟩
   ·cases hh
  ·rename_i hq
   obtain⟨g1,g2,b2,g3,g4⟩:=Tv hh hg
   have hne: ¬k=q:=by rintro rfl;exact hq ⟨g1,g2⟩
   exact⟨g1,g2,b2,by simp [hget,hne,g3],g4⟩
theorem bV: ∀(a b:List (Nat×aI)) (k:Nat),hget (a++b) k=match hget a k with
  |some x=>some x
  |none=>hget b k
 |[],b,k=>rfl
 |(q,x)::a,b,k=>by
  simp only[List.cons_append,hget]
  split
  ·rfl
  ·exact bV a b k
theorem aI.ren_tok {f:Nat->Option Nat} {b b':aI} (h:b.ren f=some b'):b'.isTok=b.isTok:=by
 cases b<;>simp only[aI.ren] at h
 all_goals first
  |(cases h;rfl)
  |(split at h<;>first|(cases h;rfl)|cases h)
theorem dB.named {n n1:Nat} {ρ:List (Nat×Nat)} (hf:Po n n1 ρ=true) {M:Mem} {k k':Nat} (hk:bI n ρ k=some k') {b b':aI} {ob:Obj} (h:dB M k b ob) (hb:b.ren (bI n ρ)=some b'):dB (M.named n ρ) k' b' ob:=by
 have hr: ∀ {a:AV} {v:Value},M.rel a v->(M.named n ρ).rel (a.ren (bI n ρ)) v:=fun r=>aQ.ren r (fun k k' b h1 h2=>qH hf h1 h2) (fun k k' b h1 h2=>qH hf h1 h2)
 have hT: ∀ {x},M.T k=some x->(M.named n ρ).T k'=some x:=fun h=>qH hf hk h
 cases b with
 |cells cs=>
  simp only[aI.ren,Option.some.injEq] at hb;subst hb
  cases ob<;>simp only[dB] at h ⊢
  obtain⟨h1,h2,h3,b,z,h4,h5⟩:=h
  exact⟨h1,by simpa using h2,fun i hi hi'=>by simpa using hr (h3 i (by simpa using hi) hi'),b,z,hT h4,h5⟩
 |tok=>
  simp only[aI.ren,Option.some.injEq] at hb;subst hb
  cases ob<;>simp only[dB] at h ⊢
  obtain⟨h1,b,e,z,h4,h5⟩:=h
  exact⟨h1,b,e,z,hT h4,h5⟩
 |map es c=>
  simp only[aI.ren,Option.some.injEq] at hb;subst hb
  cases ob<;>simp only[dB] at h ⊢
  obtain⟨h1,h2,h3⟩:=h
  refine⟨h1,by simpa using h2,fun i hi hi'=>?_⟩
  obtain⟨g1,g2,g3⟩:=h3 i (by simpa using hi) hi'
  simp only[List.getElem_map,ME.ren]
  exact⟨hr g1,hr g2,g3⟩
 |sit s p=>
  simp only[aI.ren,Option.some.injEq] at hb;subst hb
  cases ob<;>simp only[dB] at h ⊢
  exact h
 | mit m a b c=>
  simp only[aI.ren] at hb
  split at hb
  ·rename_i m' hm
   simp only[Option.some.injEq] at hb;subst hb
   cases ob<;>simp only[dB] at h ⊢
   obtain⟨⟨b,h1,h2⟩,h3⟩:=h
   exact⟨⟨b,qH hf hm h1,h2⟩,h3⟩
  ·cases hb
 |nmit=>
  simp only[aI.ren,Option.some.injEq] at hb;subst hb
  cases ob<;>simp only[dB] at h ⊢
  exact h
 | loop st pd s ps as bo d=>
  simp only[aI.ren] at hb
  split at hb
  ·rename_i d' hd
   simp only[Option.some.injEq] at hb;subst hb
   cases ob<;>simp only[dB] at h ⊢
   obtain⟨h1,h2,h3,h4,h5,h6,h7,h8⟩:=h
   exact⟨h1,h2,h3,h4,h5,qH hf hd h6,by simpa using h7,fun i hi hi'=>by simpa using hr (h8 i (by simpa using hi) hi')⟩
  ·cases hb
 |dfd o=>
  simp only[aI.ren,Option.some.injEq] at hb;subst hb
  cases ob<;>simp only[dB] at h ⊢
  exact h
theorem vP.norm {W:World} {M:Mem} {fr:Fr} {st st':St} {a:Act} {w:World} {n n1:Nat} {mask:List Bool} {accs:List (Nat×Nat)} (sim:vP G W M fr st a w) (h:St.norm n n1 accs fr st=some st'):
  ∃ρ,vP G W (M.named n ρ) (fr.norm n mask accs) st' a w:=by
 unfold St.norm at h
 split at h
 ·rename_i hc
  rw[Bool.and_eq_true] at hc
  obtain⟨hfit,hmk⟩:=hc
  split at h
  ·rename_i ha hb e1 e2
   simp only[Option.some.injEq] at h;subst h
   refine⟨qR fr.s accs,?_⟩
   generalize hρ:qR fr.s accs=ρ at*
   obtain⟨g0,g1,g2,g3⟩:=Pq hfit
   have hr: ∀ {a:AV} {v:Value},M.rel a v->(M.named n ρ).rel (a.ren (bI n ρ)) v:=fun r=>aQ.ren r (fun k k' b h1 h2=>qH hfit h1 h2) (fun k k' b h1 h2=>qH hfit h1 h2)
   have back: ∀k b',hget (ha++hb) k=some b'-> ∃q b,bI n ρ q=some k/\hget st.h q=some b/\b.ren (bI n ρ)=some b'/\((q,k)∈ρ\/(q=k/\k<n/\k ∉ ρ.map (·.1))):=by
    intro k b' hk
    rw[bV] at hk
    split at hk
    ·rename_i x hx
     simp only[Option.some.injEq] at hk;subst hk
     obtain⟨q,b,k1,k2,k3⟩:=aC5 e1 hx
     refine⟨q,b,?_,k2,k3,.inl k1⟩
     clear e1 e2 hx k3 hmk hρ hfit hr
     induction ρ with
     |nil=>cases k1
     | cons p r ih=>
      simp only[bI]
      split
      ·rename_i e
       have:=g2 _ k1 p (by simp) e
       rw[<-this]
      ·rename_i hne
       rcases List.mem_cons.1 k1 with rfl|k1
       ·exact absurd rfl hne
       ·exact ih (fun p hp=>g1 p (List.mem_cons_of_mem _ hp)) (fun p hp q hq=>g2 p (List.mem_cons_of_mem _ hp) q (List.mem_cons_of_mem _ hq)) (fun p hp q hq=>g3 p (List.mem_cons_of_mem _ hp) q (List.mem_cons_of_mem _ hq)) k1
    ·obtain⟨k1,k2,b,k3,k4⟩:=Tv e2 hk
     refine⟨k,b,?_,k3,k4,.inr ⟨rfl,k1,k2⟩⟩
     clear e1 e2 hk k3 k4 hmk hρ hfit g1 g2 g3 hr
     induction ρ with
     |nil=>simp [bI,k1]
     |cons p r ih=>
      simp only[List.map_cons,List.mem_cons,not_or] at k2
      simp only[bI,if_neg k2.1]
      exact ih k2.2
   refine⟨⟨sim.inv.imm,sim.inv.far,sim.inv.os,sim.inv.tape,sim.inv.out,fun key hkey=>?_,fun key blk hb=>?_,fun k1 k2 b1 b2 b h1 h2 h3 h4=>?_,fun g cells hg=>sim.inv.glob g cells hg,fun _ _ _=>trivial⟩,⟨?_,fun i h1 h2=>?_⟩,?_⟩
   ·have hkey': ¬key<n1:=hkey
    have hn: ¬key<n:=by omega
    have:Dz ρ key=none:=by
     cases hi:Dz ρ key with
     |none=>rfl
     |some a=>exact absurd (g1 _ (Px hi)).2 hkey'
    simp [Mem.named,Ho,hn,this]
   ·obtain⟨q,b0,k1,k2,k3,_⟩:=back key blk hb
    obtain⟨b,ob,m1,m2,m3,m4,m5⟩:=sim.inv.live q b0 k2
    refine⟨b,ob,?_,m2,m3.named hfit k1 k3,m4,fun ht=>m5 (by rw[<-aI.ren_tok k3];exact ht)⟩
    unfold Mem.blockOf at m1 ⊢
    rw[aI.ren_tok k3]
    split
    ·rename_i ht
     rw[if_pos ht] at m1
     cases hT:M.T q with
     |none=>rw[hT] at m1;cases m1
     |some x=>
      rw[hT] at m1
      show(Ho n ρ M.T key).map (·.1)=some b
      rw[qH hfit k1 hT];exact m1
    ·rename_i ht
     rw[if_neg ht] at m1
     exact qH hfit k1 m1
   ·obtain⟨q1,c1,r1,r2,r3,r4⟩:=back k1 b1 h1
    obtain⟨q2,c2,s1,s2,s3,s4⟩:=back k2 b2 h2
    have same: ∀ {q k:Nat} {c b':aI},bI n ρ q=some k->hget st.h q=some c->c.ren (bI n ρ)=some b'->(M.named n ρ).blockOf k b'=some b->M.blockOf q c=some b:=by
     intro q k c b' u1 u2 u3 u4
     obtain⟨b0,ob,m1,m2,m3,m4,m5⟩:=sim.inv.live q c u2
     have:(M.named n ρ).blockOf k b'=some b0:=by
      unfold Mem.blockOf at m1 ⊢
      rw[aI.ren_tok u3]
      split
      ·rename_i ht
       rw[if_pos ht] at m1
       cases hT:M.T q with
       |none=>rw[hT] at m1;cases m1
       |some x=>
        rw[hT] at m1
        show(Ho n ρ M.T k).map (·.1)=some b0
        rw[qH hfit u1 hT];exact m1
      ·rename_i ht
       rw[if_neg ht] at m1
       exact qH hfit u1 m1
     rw[u4] at this
     cases this
     exact m1
    have e:=sim.inv.inj q1 q2 c1 c2 b r2 s2 (same r1 r2 r3 h3) (same s1 s2 s3 h4)
    subst e
    rw[r1] at s1
    exact Option.some.inj s1
   ·simp only[Fr.norm,List.length_map,yK];exact sim.rs.1
   ·have h1':i< (kE mask fr.s).length:=by simpa [Fr.norm] using h1
    have h0:i<fr.s.length:=by simpa [yK] using h1'
    simp only[Fr.norm,List.getElem_map,hρ]
    exact hr (Ou mask fr.s i _ h0 h1' (sim.rs.2 i h0 h2))
   ·refine⟨sim.defers.1,fun i key hi=>?_⟩
    obtain⟨l,k1,k2⟩:=sim.defers.2 i key hi
    refine⟨l,?_,k2⟩
    have hlt:key<n:=by
     have:=List.all_eq_true.1 hmk key (List.mem_of_getElem? hi)
     simpa using this
    simp only[Mem.named,Ho,if_pos hlt]
    exact k1
  ·cases h
 ·cases h
def Ap (o:Oper):Bool:=Sr o||(match o.op with
 | .buildSlice _ _ _=>true
 |_=>false)
def Vy (ops:Array Oper):Bool:=ops.toList.all Ap && vK ops (qF ops.toList []) && aBh ops (qF ops.toList [])
theorem aK7 {nx nx':Nat} {t:TypeId} {len:Nat} {parts:List (Nat×AV)} {v:AV} (h:xM P nx t len parts=some (.val v [])):xM P nx' t len parts=some (.val v []):=by
 simp only[xM] at h ⊢
 cases he:nK P t with
 |none=>simp [he] at h
 | some e=>
  simp only[he] at h ⊢
  cases hz:bH P e with
  |none=>simp [hz] at h
  | some nz=>
   obtain⟨n,z⟩:=nz
   simp only[hz] at h ⊢
   by_cases hle:len*n<=16777216
   ·simp only[if_pos hle] at h ⊢
    cases hr:setRows n (List.replicate len z) (parts.map fun p=>(p.1,p.2.strip)) with
    |none=>simp [hr] at h
    | some rows=>
     simp only[hr] at h ⊢
     by_cases hp:rows.all AV.pureV=true
     ·simp only[if_pos hp] at h ⊢
      exact h
     ·simp only[if_neg hp] at h
      split at h<;>simp at h
   ·simp [if_neg hle] at h
theorem aBr {nx:Nat} {t:TypeId} {len:Nat} {parts:List (Nat×AV)} {f:FuncId} {args:List AV} (h:xM P nx t len parts=some (.call f args)):False:=by
 simp only[xM] at h
 cases he:nK P t with
 |none=>simp [he] at h
 | some e=>
  simp only[he] at h
  cases hz:bH P e with
  |none=>simp [hz] at h
  | some nz=>
   obtain⟨n,z⟩:=nz
   simp only[hz] at h
   by_cases hle:len*n<=16777216
   ·simp only[if_pos hle] at h
    cases hr:setRows n (List.replicate len z) (parts.map fun p=>(p.1,p.2.strip)) with
    |none=>simp [hr] at h
    | some rows=>
     simp only[hr] at h
     by_cases hp:rows.all AV.pureV=true
     ·simp only[if_pos hp] at h
      simp at h
     ·simp only[if_neg hp] at h
      split at h<;>simp at h
   ·simp [if_neg hle] at h
theorem aIy {s:List AV} {g:Hp} {dst:Option Tmp} {t:TypeId} {l:Nat} {ps:Array (Nat×Operand)} {ty:TypeId} {pos:String} {after:Array Edge} {guard:Option (Nat×Bool)} (nx:Nat):jL P G s g nx ⟨dst,.buildSlice t l ps,ty,pos,after,guard⟩=wG P G s nx t l ps:=by
 simp only[jL,Ad]
 cases wG P G s nx t l ps<;>rfl
theorem aQ4 {s:List AV} {g:Hp} {nx nx':Nat} {o:Oper} (h:Ap o=true) {v:AV} (hv:jL P G s g nx o=some (.val v [])):jL P G s g nx' o=some (.val v []):=by
 unfold Ap at h
 rw[Bool.or_eq_true] at h
 rcases h with h|h
 ·rw[<-aIm (nx:=nx) h];exact hv
 ·obtain⟨dst,op,ty,pos,after,guard⟩:=o
  cases op<;>simp at h
  rw[aIy] at hv ⊢
  exact aK7 hv
theorem aQ5 {s:List AV} {g:Hp} {nx nx':Nat} {o:Oper} (h:Ap o=true) {f:FuncId} {args:List AV} (hv:jL P G s g nx o=some (.call f args)):jL P G s g nx' o=some (.call f args):=by
 unfold Ap at h
 rw[Bool.or_eq_true] at h
 rcases h with h|h
 ·rw[<-aIm (nx:=nx) h];exact hv
 ·obtain⟨dst,op,ty,pos,after,guard⟩:=o
  cases op<;>simp at h
  rw[aIy] at hv
  exact(aBr hv).elim
theorem aEd {ops:Array Oper} {anc:List (List Nat)} {nx0:Nat} {h0:DH} {K:List AV->Prop} (hk: ∀o∈ops.toList,Ap o=true) (hc:aBh ops anc=true):
    ∀ (l:List Oper) (k:Nat) (log:List LE) (s:List AV),(∀j,l[j]?=ops[k+j]?)->(∀e∈log,e.wk=[]/\e.all=false/\e.p<k/\(e.call=true-> ∃o,ops[e.p]?=some o/\vJ o=true))->Dt P G ops K (bY h0) l s->
      sN P G (fun _ _ _ _ _ _=>False) ops anc (fun nx s h=>nx=nx0/\h=h0/\K s) (List.range' k l.length) log nx0 s h0
  |[],k,log,s,_,_,h=>⟨rfl,rfl,h⟩
  | o ::rest,k,log,s,hl,hlog,h=>by
    have ho:ops[k]?=some o:=by simpa using(hl 0).symm
    have hrest: ∀j,rest[j]?=ops[k+1+j]?:=fun j=>by
      have:=hl (j+1)
      rw[show k+1+j=k+(j+1) by omega,<-this];simp
    have hko:Ap o=true:=hk o (by
      obtain⟨h1,h2⟩:=Array.getElem?_eq_some_iff.1 ho
      rw[<-h2];simp)
    have hks:k<ops.size:=(Array.getElem?_eq_some_iff.1 ho).1
    have grow: ∀e:LE,e.wk=[]->e.all=false->e.p=k->(e.call=true->vJ o=true)-> ∀x∈e::log,x.wk=[]/\x.all=false/\x.p<k+1/\(x.call=true-> ∃o,ops[x.p]?=some o/\vJ o=true):=by
      intro e h1 h2 h3 h4 x hx
      rcases List.mem_cons.1 hx with rfl|hx
      · exact⟨h1,h2,by omega,fun hcall=>⟨o,by rw[h3];exact ho,h4 hcall⟩⟩
      · obtain⟨a,b,c,d⟩:=hlog x hx
        exact⟨a,b,by omega,d⟩
    have check: ∀e:LE,e.wk=[]->e.all=false->e.p=k->(e.call=true->vJ o=true)->chk anc e log=true:=by
      intro e h1 h2 h3 h4
      simp only[chk,List.all_eq_true,Bool.or_eq_true]
      intro x hx
      obtain⟨a,b,c,d⟩:=hlog x hx
      by_cases hcc:(e.call && x.call)=true
      · left
        rw[Bool.and_eq_true] at hcc
        obtain⟨o',ho',hco'⟩:=d hcc.2
        simp only[aBh,List.all_eq_true,List.mem_range] at hc
        have:=hc k hks x.p c
        rw[ho',ho] at this
        simp only[hco',h4 hcc.1,Bool.and_self,Bool.not_true,Bool.false_or] at this
        rw[h3];exact this
      · right
        simp only[vU,beside,Ig,h1,a,h2,b]
        cases h5:e.call<;>cases h6:x.call<;>simp_all
    simp only[Dt] at h
    simp only[List.length_cons,List.range'_succ,sN]
    split at h
    · exact h.elim
    · rename_i hw
      refine⟨o,⟨k,[],[],false,false,false,0⟩,uu,h0,nx0,ho,.inl ⟨hw,rfl,rfl,rfl,rfl⟩,check _ rfl rfl rfl (fun hx=>by cases hx),?_⟩
      exact aEd hk hc rest (k+1) _ _ hrest (grow _ rfl rfl rfl (fun hx=>by cases hx)) h
    · rename_i hw
      split at h
      · rename_i v hv
        replace hv:=aQ4 (nx':=nx0+k) hko hv
        refine⟨o,⟨k,lX P G s o,[],false,false,xB o.op,0⟩,v,h0,nx0,ho,.inr (.inl ⟨hw,[],.inl hv,by simp,rfl,rfl,rfl⟩),check _ rfl rfl rfl (fun hx=>by cases hx),?_⟩
        exact aEd hk hc rest (k+1) _ _ hrest (grow _ rfl rfl rfl (fun hx=>by cases hx)) h
      · rename_i f args hv
        obtain⟨hcall,r,hr,h⟩:=h
        replace hv:=aQ5 (nx':=nx0+k) hko hv
        refine⟨o,⟨k,lX P G s o,[],true,false,true,0⟩,r,h0,nx0,ho,.inr (.inr (.inl ⟨hw,⟨f,args,hv,hr⟩,rfl,rfl,rfl⟩)),check _ rfl rfl rfl (fun _=>hcall),?_⟩
        exact aEd hk hc rest (k+1) _ _ hrest (grow _ rfl rfl rfl (fun _=>hcall)) h
      · exact h.elim
theorem aN9 {F:Fence} (hF:Free F) (hmix:P.follows .mixedOrders=true) {W:World} {id:Nat} {ops:Array Oper} {K:Fr->St->Prop} {fr:Fr} {st:St} (hro:Vy ops=true)
  (h:Dt P G ops (fun s=>K ⟨s,fr.marks⟩ ⟨st.h,st.nx+ops.size⟩) st.hp ops.toList fr.s):vS F P G W (.region id ops true) (fun x fr st=>match x with| .normal=>K fr st|_=>False) fr st:=by
 intro M a w n sim
 simp only[Vy,Bool.and_eq_true,List.all_eq_true] at hro
 obtain⟨⟨hk,hs⟩,hc⟩:=hro
 have hget0: ∀k,st.hp k=bY (nD st.nx (news 0 ops.toList) st.h) k:=by
  intro k
  cases e:bY (nD st.nx (news 0 ops.toList) st.h) k with
  |some b=>exact Gf _ _ _ _ _ e
  | none=>
   cases e2:st.hp k with
   |none=>rfl
   | some b=>
    have hlt:k<st.nx:=sim.inv.al_of e2
    exfalso
    have: ∀(l:List Nat),bY (nD st.nx l st.h) k=some b:=by
     intro l
     induction l with
     |nil=>simp only[nD,List.map_nil,List.nil_append];rw[Ph];exact e2
     |cons p l ih=>
      simp only[nD,List.map_cons,List.cons_append,bY]
      rw[if_neg (by omega)]
      exact ih
    rw[this] at e;cases e
 have hS:=aEd (P:=P) (G:=G) (nx0:=st.nx) (h0:=nD st.nx (news 0 ops.toList) st.h) hk hc ops.toList 0 [] fr.s (fun j=>by simp) (fun e he=>by cases he) (aJ2 hget0 _ _ h)
 rw[<-List.range_eq_range'] at hS
 simp only[Array.length_toList] at hS
 refine wpIn_region_any hmix ?_
 refine Yc (P:=P) (G:=G) (W:=W) (gc:=fun _ _ _ _ _ _=>False) (M0:=M) (marks:=fr.marks) hF (fun _ _ _ _ _ _ h=>h.elim) ⟨hs,Vu ops.toList [] [] rfl (fun i o hi=>by simp at hi),by rw[Pj];simp⟩ (fun M' nx s h a w hM sim' hkk=>?_) ops.size (List.range ops.size) _ st.nx fr.s _ M a _ (by simp) (by simp) (fun i hi=>by simp [Array.getD,hi]) (fun i hi=>List.mem_range.1 hi) List.pairwise_lt_range
  (fun i hi hn=>absurd (List.mem_range.2 hi) hn) M.le_refl ?_ hS
 ·obtain⟨rfl,rfl,hkk⟩:=hkk
  refine⟨M',⟨s,fr.marks⟩,⟨st.h,st.nx+ops.size⟩,.normal,hM,⟨?_,sim'.rs,sim'.defers⟩,rfl,hkk⟩
  refine(sim'.inv.more fun k hk=>hk.1).less fun k b hk=>?_
  rw[<-hget0];exact hk
 ·refine⟨?_,sim.rs,sim.defers⟩
  have inv:=sim.inv
  have inv':Inv G M (· <st.nx) st.hp W {w with drawn:=w.drawn+1}:=⟨inv.imm,inv.far,inv.os,inv.tape,inv.out,inv.fresh,inv.live,inv.inj,inv.glob,inv.has⟩
  refine(inv'.more fun k hk=>⟨?_,fun p _=>?_⟩).less fun k b hk=>Gf _ _ _ _ _ hk
  ·have:k<st.nx:=hk
   omega
  ·have:k<st.nx:=hk
   omega
def mX (anc:List (List Nat)):List LE->Bool
 |[]=>true
 |e::log=>chk anc e log && mX anc log
def sF (P:Program) (G:Nat->Option (List AV)) (gds:List (Option Tmp)) (anc:List (List Nat)) (nx0:Nat) (K:List AV->DH->Prop):Nat->List kP->List LE->List AV->DH->Prop
 |_,[],log,s,h=>mX anc log=true/\K s h
 | p,o::rest,log,s,h=>match oN gds s o.guard with
  |none=>False
  |some false=>sF P G gds anc nx0 K (p+1) rest (⟨p,[],[],false,false,false,0⟩::log) (gQ s o.dst uu) h
  |some true=>match jL P G s (bY h) (nx0+p) o.full with
   |some (.val v u)=>(u.all fun x=>fO h x.1)=true/\sF P G gds anc nx0 K (p+1) rest (⟨p,lX P G s o.full,u.map (·.1),false,false,xB o.op,0⟩::log) (gQ s o.dst v) (iE h u)
   |some (.skip u)=>(u.all fun x=>fO h x.1)=true/\sF P G gds anc nx0 K (p+1) rest (⟨p,lX P G s o.full,u.map (·.1),false,false,xB o.op,0⟩::log) (gQ s o.dst uu) (iE h u)
   |some (.call f args)=> ∃r,Pl P G f args r/\sF P G gds anc nx0 K (p+1) rest (⟨p,lX P G s o.full,[],true,false,true,0⟩::log) (gQ s o.dst r) h
   |_=>False
theorem Zz {s:List AV} {o:Oper}:lX P G s (qP o).full=lX P G s o:=by
 obtain⟨a,b,c,d,e,f⟩:=o;rfl
theorem Tz {ops:Array Oper} {anc:List (List Nat)} {nx0:Nat} {K:List AV->DH->Prop}: ∀(l:List Oper) (k:Nat) (log:List LE) (s:List AV) (h:DH),(∀j,l[j]?=ops[k+j]?)->
  sF P G (ops.toList.map (·.dst)) anc nx0 K k (l.map qP) log s h->
  mX anc log=true/\sN P G (fun _ _ _ _ _ _=>False) ops anc (fun nx s h=>nx=nx0/\K s h) (List.range' k l.length) log nx0 s h
 |[],k,log,s,h,_,hw=>⟨hw.1,rfl,hw.2⟩
 | o ::rest,k,log,s,h,hl,hw=>by
  have ho:ops[k]?=some o:=by simpa using(hl 0).symm
  have hrest: ∀j,rest[j]?=ops[k+1+j]?:=fun j=>by
   have:=hl (j+1)
   rw[show k+1+j=k+(j+1) by omega,<-this];simp
  simp only[List.map_cons,sF] at hw
  rw[show(qP o).guard=o.guard from rfl,<-Eu (ops:=ops)] at hw
  simp only[List.length_cons,List.range'_succ,sN]
  cases hwa:mV ops s o with
  |none=>rw[hwa] at hw;exact hw.elim
  | some c=>
   rw[hwa] at hw
   cases c with
   |false=>
    obtain⟨h1,h2⟩:=Tz rest (k+1) _ _ _ hrest hw
    simp only[mX,Bool.and_eq_true] at h1
    exact⟨h1.2,o,_,uu,h,nx0,ho,.inl ⟨hwa,rfl,rfl,rfl,rfl⟩,h1.1,h2⟩
   | true=>
    simp only at hw
    rw[<-Sv,Zz] at hw
    cases hop:jL P G s (bY h) (nx0+k) o with
    |none=>rw[hop] at hw;exact hw.elim
    | some r=>
     rw[hop] at hw
     cases r with
     |val v u=>
      obtain⟨hd,hw⟩:=hw
      obtain⟨h1,h2⟩:=Tz rest (k+1) _ _ _ hrest hw
      simp only[mX,Bool.and_eq_true] at h1
      exact⟨h1.2,o,_,v,iE h u,nx0,ho,.inr (.inl ⟨hwa,u,.inl hop,fun x hx=>List.all_eq_true.1 hd x hx,rfl,rfl,rfl⟩),h1.1,h2⟩
     |skip u=>
      obtain⟨hd,hw⟩:=hw
      obtain⟨h1,h2⟩:=Tz rest (k+1) _ _ _ hrest hw
      simp only[mX,Bool.and_eq_true] at h1
      exact⟨h1.2,o,_,uu,iE h u,nx0,ho,.inr (.inl ⟨hwa,u,.inr ⟨hop,rfl⟩,fun x hx=>List.all_eq_true.1 hd x hx,rfl,rfl,rfl⟩),h1.1,h2⟩
     |call f args=>
      obtain⟨r,hr,hw⟩:=hw
      obtain⟨h1,h2⟩:=Tz rest (k+1) _ _ _ hrest hw
      simp only[mX,Bool.and_eq_true] at h1
      exact⟨h1.2,o,_,r,h,nx0,ho,.inr (.inr (.inl ⟨hwa,⟨f,args,hop,hr⟩,rfl,rfl,rfl⟩)),h1.1,h2⟩
     |yield key args=>exact hw.elim
     |branch l=>exact hw.elim
def Nc (K:Fr->St->Prop) (marks:List Nat) (n:Nat):List AV->DH->Prop:=fun s h=>K ⟨s,marks⟩ ⟨jA h,n⟩
theorem aOa {K:Fr->St->Prop} {marks:List Nat} {n:Nat} {s:List AV} {h:DH}:Nc K marks n s h=K ⟨s,marks⟩ ⟨jA h,n⟩:=rfl
theorem aIz {F:Fence} (hF:Free F) (hmix:P.follows .mixedOrders=true) {W:World} {id:Nat} {ops:Array Oper} {K:Fr->St->Prop} {fr:Fr} {st:St} (hs:vK ops (qF ops.toList [])=true)
  (h:sF P G (ops.toList.map (·.dst)) (qF ops.toList []) st.nx (Nc K fr.marks (st.nx+ops.size)) 0 (ops.toList.map qP) [] fr.s (nD st.nx (news 0 ops.toList) st.h)):
  vS F P G W (.region id ops true) (fun x fr st=>match x with| .normal=>K fr st|_=>False) fr st:=by
 intro M a w n sim
 have hS:=(Tz ops.toList 0 [] fr.s _ (fun j=>by simp) h).2
 rw[<-List.range_eq_range'] at hS
 simp only[Array.length_toList] at hS
 refine wpIn_region_any hmix ?_
 refine Yc (P:=P) (G:=G) (W:=W) (gc:=fun _ _ _ _ _ _=>False) (M0:=M) (marks:=fr.marks) hF (fun _ _ _ _ _ _ h=>h.elim) ⟨hs,Vu ops.toList [] [] rfl (fun i o hi=>by simp at hi),by rw[Pj];simp⟩ (fun M' nx s h a w hM sim' hkk=>?_) ops.size (List.range ops.size) _ st.nx fr.s _ M a _ (by simp) (by simp) (fun i hi=>by simp [Array.getD,hi]) (fun i hi=>List.mem_range.1 hi) List.pairwise_lt_range
  (fun i hi hn=>absurd (List.mem_range.2 hi) hn) M.le_refl ?_ hS
 ·obtain⟨rfl,hkk⟩:=hkk
  refine⟨M',⟨s,fr.marks⟩,⟨jA h,st.nx+ops.size⟩,.normal,hM,⟨?_,sim'.rs,sim'.defers⟩,rfl,hkk⟩
  exact(sim'.inv.more fun k hk=>hk.1).less fun k b hk=>Hm _ _ _ hk
 ·refine⟨?_,sim.rs,sim.defers⟩
  have inv:=sim.inv
  have inv':Inv G M (· <st.nx) st.hp W {w with drawn:=w.drawn+1}:=⟨inv.imm,inv.far,inv.os,inv.tape,inv.out,inv.fresh,inv.live,inv.inj,inv.glob,inv.has⟩
  refine(inv'.more fun k hk=>⟨?_,fun p _=>?_⟩).less fun k b hk=>Gf _ _ _ _ _ hk
  ·have:k<st.nx:=hk
   omega
  ·have:k<st.nx:=hk
   omega
section
variable {gds:List (Option Tmp)} {anc:List (List Nat)} {nx0:Nat} {K:List AV->DH->Prop}
def Py (P:Program) (G:Nat->Option (List AV)) (gds:List (Option Tmp)) (anc:List (List Nat)) (nx0:Nat) (K:List AV->DH->Prop) (p:Nat) (rest:List kP) (d:Option Tmp) (log:List LE) (s:List AV) (h:DH) (ak:List Nat) (un:Bool) (c:Option Bool) (r:Option kK):Prop:=
 match c with
 |none=>False
 |some false=>sF P G gds anc nx0 K (p+1) rest (⟨p,[],[],false,false,false,0⟩::log) (gQ s d uu) h
 |some true=>match r with
  |some (.val v u)=>(u.all fun x=>fO h x.1)=true/\sF P G gds anc nx0 K (p+1) rest (⟨p,ak,u.map (·.1),false,false,un,0⟩::log) (gQ s d v) (iE h u)
  |some (.skip u)=>(u.all fun x=>fO h x.1)=true/\sF P G gds anc nx0 K (p+1) rest (⟨p,ak,u.map (·.1),false,false,un,0⟩::log) (gQ s d uu) (iE h u)
  |some (.call f args)=> ∃r,Pl P G f args r/\sF P G gds anc nx0 K (p+1) rest (⟨p,ak,[],true,false,true,0⟩::log) (gQ s d r) h
  |_=>False
theorem aQ6 {p:Nat} {log:List LE} {s:List AV} {h:DH}:sF P G gds anc nx0 K p [] log s h=(mX anc log=true/\K s h):=rfl
theorem aOb {p:Nat} {dst:Option Tmp} {op:Op} {ty:TypeId} {g:Option (Nat×Bool)} {rest:List kP} {log:List LE} {s:List AV} {h:DH}:
  sF P G gds anc nx0 K p (⟨dst,op,ty,g⟩::rest) log s h=Py P G gds anc nx0 K p rest dst log s h (lX P G s ⟨dst,op,ty, "", #[],g⟩) (xB op) (oN gds s g) (jL P G s (bY h) (nx0+p) ⟨dst,op,ty, "", #[],g⟩):=by
 rfl
theorem aQ7 {p:Nat} {rest:List kP} {d:Option Tmp} {log:List LE} {s:List AV} {h:DH} {ak:List Nat} {un:Bool} {r:Option kK}:Py P G gds anc nx0 K p rest d log s h ak un (some false) r=sF P G gds anc nx0 K (p+1) rest (⟨p,[],[],false,false,false,0⟩::log) (gQ s d uu) h:=rfl
theorem aOc {p:Nat} {rest:List kP} {d:Option Tmp} {log:List LE} {s:List AV} {h:DH} {ak:List Nat} {un:Bool} {v:AV} {u:List (Nat×Option aI)}:Py P G gds anc nx0 K p rest d log s h ak un (some true) (some (.val v u))=((u.all fun x=>fO h x.1)=true/\sF P G gds anc nx0 K (p+1) rest (⟨p,ak,u.map (·.1),false,false,un,0⟩::log) (gQ s d v) (iE h u)):=rfl
theorem aK8 {p:Nat} {rest:List kP} {d:Option Tmp} {log:List LE} {s:List AV} {h:DH} {ak:List Nat} {un:Bool} {u:List (Nat×Option aI)}:Py P G gds anc nx0 K p rest d log s h ak un (some true) (some (.skip u))=((u.all fun x=>fO h x.1)=true/\sF P G gds anc nx0 K (p+1) rest (⟨p,ak,u.map (·.1),false,false,un,0⟩::log) (gQ s d uu) (iE h u)):=rfl
theorem iZ {p:Nat} {rest:List kP} {d:Option Tmp} {log:List LE} {s:List AV} {h:DH} {ak:List Nat} {un:Bool} {f:FuncId} {args args':List AV} {r:AV} (hc:PC P G f args' (fun v=>v=r)) (he:args.map AV.plain=args') (hk:sF P G gds anc nx0 K (p+1) rest (⟨p,ak,[],true,false,true,0⟩::log) (gQ s d r) h):
  Py P G gds anc nx0 K p rest d log s h ak un (some true) (some (.call f args)):=by
 subst he
 exact⟨r,hc,hk⟩
theorem w_at (f:FuncId) {p:Nat} {rest:List kP} {d:Option Tmp} {log:List LE} {s:List AV} {h:DH} {ak:List Nat} {un:Bool} {args:List AV} (g:Py P G gds anc nx0 K p rest d log s h ak un (some true) (some (.call f args))):Py P G gds anc nx0 K p rest d log s h ak un (some true) (some (.call f args)):=g
def l7 (p:Prop):Prop:=p
theorem l9 {log:List LE} (h1:mX anc log=true):mX anc log=true:=h1
theorem dP {log:List LE} {X:Prop} (h1:mX anc log=true) (h2:X):mX anc log=true/\X:=⟨h1,h2⟩
end
end Go.Proofs.Pv
namespace Go.Proofs.Pv
open Go
variable {P:Program} {G:Nat->Option (List AV)}
def Ew (K:dU Prop) (n n1:Nat) (mask:List Bool) (accs:List (Nat×Nat)) (m:Nat) (I:Nat->Fr->St->Prop):dU Prop:=fun x fr' st'=>match x with
 | .normal=> ∃st'',St.norm n n1 accs fr' st'=some st''/\ ∃m',m'<m/\I m' (fr'.norm n mask accs) st''
 |x=>K x fr' st'
theorem aFf {K:dU Prop} {n n1:Nat} {mask:List Bool} {accs:List (Nat×Nat)} {m:Nat} {I:Nat->Fr->St->Prop} {fr:Fr} {st:St}:Ew K n n1 mask accs m I .normal fr st= ∃st'',St.norm n n1 accs fr st=some st''/\ ∃m',m'<m/\I m' (fr.norm n mask accs) st'':=rfl
theorem aKn {K:dU Prop} {n n1:Nat} {mask:List Bool} {accs:List (Nat×Nat)} {m:Nat} {I:Nat->Fr->St->Prop} {id:Nat} {fr:Fr} {st:St}:Ew K n n1 mask accs m I (.exit id) fr st=K (.exit id) fr st:=rfl
theorem aNs {K:dU Prop} {n n1:Nat} {mask:List Bool} {accs:List (Nat×Nat)} {m:Nat} {I:Nat->Fr->St->Prop} {fr:Fr} {st:St}:Ew K n n1 mask accs m I .ret fr st=K .ret fr st:=rfl
def OY (F:Fence) (P:Program) (G:Nat->Option (List AV)) (W:World):Bool->Nat->Hand Prop
 |_,0=> {SH F P G W with loop:=fun _ _ _ _=>False,draw:=fun _ _ _ _=>False,rangeF:=fun _ _ _ _ _ _ _=>False,yield:=fun _ _ _ _=>False}
 |rng,d+1=> {SH F P G W with
  loop:=fun c K fr st=>(∃(mask:List Bool) (accs:List (Nat×Nat)) (n1:Nat) (I:Nat->Fr->St->Prop),(∃st',St.norm st.nx n1 accs fr st=some st'/\ ∃m,I m (fr.norm st.nx mask accs) st')/\ ∀m fr1 st1,I m fr1 st1->fG P G (OY F P G W rng d) c (Ew K st.nx n1 mask accs m I) fr1 st1)\/ ∃n,zW P G (OY F P G W rng d) c K n fr st
  rangeF:=fun f ps assign body K fr st=>rng=true/\Mc P G (OY F P G W true d) f ps assign body K fr st
  yield:=fun key args K st=>Lt P G (OY F P G W false d) key args K st
  draw:=fun ops K fr st=>(Vy ops=true/\Dt P G ops (fun s=>K ⟨s,fr.marks⟩ ⟨st.h,st.nx+ops.size⟩) st.hp ops.toList fr.s)\/(vK ops (qF ops.toList [])=true/\sF P G (ops.toList.map (·.dst)) (qF ops.toList []) st.nx (Nc K fr.marks (st.nx+ops.size)) 0 (ops.toList.map qP) [] fr.s (nD st.nx (news 0 ops.toList) st.h))}
theorem aR8 {F0:Fence} (hmix:P.follows .mixedOrders=true) (W:World): ∀(d:Nat) (rng:Bool) (F:Fence),Free F->F.plain=F0->(rng=true->F.round=none)->xY F P G W id (OY F0 P G W rng d):=by
 intro d
 induction d with
 | zero=>
  intro rng F hF h0 hr
  have hcall: ∀f args K st,qX F0 P G W f args K st->qX F P G W f args (fun v st=>K v st) st:=by
   intro f args K st h
   rcases h with h|h
   ·refine .inl ?_
    intro M w vs inv hargs
    subst h0
    obtain⟨h1,h2⟩:=h M w vs inv hargs
    exact⟨h1,fun n=>h2 n⟩
   ·exact .inr h
  cases rng<;>exact⟨fun h=>h,hcall,fun _ _ _ _ h=>h.elim,fun _ _ _ _ h=>h.elim,fun _ _ _ _ _ _ _ h=>h.elim,fun id _ _ _ _ h=>h.elim,fun _ h=>h⟩
 | succ d ih=>
  intro rng F hF h0 hr
  have hcall: ∀f args K st,qX F0 P G W f args K st->qX F P G W f args (fun v st=>K v st) st:=by
   intro f args K st h
   rcases h with h|h
   ·refine .inl ?_
    intro M w vs inv hargs
    subst h0
    obtain⟨h1,h2⟩:=h M w vs inv hargs
    exact⟨h1,fun n=>h2 n⟩
   ·exact .inr h
  refine⟨fun h=>h,hcall,fun c K fr st h=>?_,fun key args K st h=>?_,fun f ps assign body K fr st h=>?_,fun i ops K fr st h=>?_,fun _ h=>h⟩
  ·rcases h with⟨mask,accs,n1,I,⟨st',hst,m,hm⟩,hround⟩|⟨n,hn⟩
   ·intro M a w n sim
    have hfresh: ∀k,¬k<st.nx->M.L k=none/\M.T k=none:=fun k hk=>sim.inv.fresh k hk
    let J:Nat->Act->World->Prop:=fun m a w=> ∃M' fr1 st1,M.le M'/\vP G W M' fr1 st1 a w/\I m fr1 st1
    obtain⟨ρ,sim0⟩:=sim.norm (mask:=mask) hst
    refine wpIn_loop (fun a w=> ∃m,J m a w) (fun a w=>least fun m=>J m a w) ⟨m,_,_,_,Mem.le_named M.le_refl hfresh,sim0,hm⟩ ?_
    rintro a w ⟨m0,hm0⟩
    obtain⟨h1,h2⟩:=xH (p:=fun m=>J m a w) hm0
    obtain⟨M',fr',st',g1,g2,g3⟩:=h1
    refine wpIn_mono (rG hF (ih rng F hF h0 hr) c _ _ _ (hround _ _ st' g3) M' a w n g2) ?_
    rintro e a' w' ⟨M2,fr2,st2,x,k1,k2,rfl,k4⟩
    cases x with
    |normal=>
     obtain⟨st3,hst3,m',hlt,hI⟩:=k4
     obtain⟨ρ',sim3⟩:=k2.norm (mask:=mask) hst3
     have hJ:J m' a' w':=⟨_,_,_,Mem.le_named (Mem.le_trans g1 k1) hfresh,sim3,hI⟩
     exact⟨⟨m',hJ⟩,Nat.lt_of_le_of_lt ((xH (p:=fun m=>J m a' w') hJ).2 m' hJ) hlt⟩
    |exit id=>exact⟨M2,fr2,st2,.exit id,Mem.le_trans g1 k1,k2,rfl,k4⟩
    |goto l=>exact⟨M2,fr2,st2,.goto l,Mem.le_trans g1 k1,k2,rfl,k4⟩
    |ret=>exact⟨M2,fr2,st2,.ret,Mem.le_trans g1 k1,k2,rfl,k4⟩
   ·exact aFg hF (ih rng F hF h0 hr) n fr st hn
  ·exact aC0 hF (fun l=>ih false (F.inRound l) ⟨hF.fn,hF.depth⟩ h0 (fun h=>by cases h)) (ih false F hF h0 (fun h=>by cases h)).fail h
  ·obtain⟨rfl,h⟩:=h
   exact Zn hF (hr rfl) (ih true F hF h0 hr) h
  ·rcases h with h|h
   ·exact aN9 hF hmix h.1 h.2
   ·exact aIz hF hmix h.1 h.2
open Classical in
theorem PC.introY (d:Nat) (hmix:P.follows .mixedOrders=true) {f:FuncId} {fn:Func} {c:Code} {args:List AV} {R:AV->Prop} (hf:P.funcs[f]?=some fn) (hb:fn.body=some c) (hname:fn.name≠ "runtime.NumGoroutine")
  (h: ∀(F:Fence),Free F->F.round=none-> ∀(W:World),fG P G (OY F P G W true d) c (mO P (OY F P G W true d) fn.results.toList (fun v st=>(v,st)) fun v _=>v.stripR.pureR=true/\R v.stripR) (uA fn.ntmps args) st0):PC P G f args R:=by
 refine PC.introH (fun F W=>if F.round=none then OY F.plain P G W true d else SH F P G W) (fun F hF W=>?_) hf hb hname fun F hF hro W=>?_
 ·by_cases hro:F.round=none
  ·rw[if_pos hro];exact aR8 hmix W d true F hF rfl (fun _=>hro)
  ·rw[if_neg hro];exact aRz F W
 ·rw[if_pos hro]
  exact h F.plain ⟨hF.fn,hF.depth⟩ rfl W
section
variable {F:Fence} {W:World} {rng:Bool} {d:Nat}
theorem aIp {f:FuncId} {args:List AV} {K:AV->St->Prop} {st:St} (h:aP F P G W f args K st):(OY F P G W rng d).call f args K st:=by
 cases d with
 |zero=>cases rng<;>exact .inl h
 |succ d=>exact .inl h
theorem PC.useY (hF:Free F) {f:FuncId} {args args':List AV} {R:AV->Prop} (h:PC P G f args' R) (he:args.map AV.plain=args') {K:AV->St->Prop} {st:St} (hK: ∀v,R v->K v st):
  (OY F P G W rng d).call f args K st:=by
 subst he
 exact aIp (PC.callOk hF h hK)
theorem Ti (hF:Free F) (hro:F.round=none) (hmix:P.follows .mixedOrders=true) (hname: ∀(f:Nat) (fn:Func),P.funcs[f]?=some fn->fn.name≠ "runtime.NumGoroutine") (d':Nat) {f:FuncId} {fn:Func} {c:Code} {args:List AV} {K:AV->St->Prop} {st:St} (hf:P.funcs[f]?=some fn) (hb:fn.body=some c)
  (h:fG P G (OY F P G W true d') c (mO P (OY F P G W true d') fn.results.toList (fun v st=>(v,st)) K) (uA fn.ntmps args) st):(OY F P G W rng d).call f args K st:=by
 have hpl:F.plain=F:=by cases F;simp only[Fence.plain] at hro ⊢;simp_all
 refine aIp (wO (ok:=id) hF hro hname (aR8 hmix W d' true F hF hpl (fun _=>hro)) (fin:=fun _ _ v st=>(v,st)) (fun _ _ _ _ _ _ _ _ inv hv=>⟨_,Mem.le_refl _,inv,hv⟩) ?_)
 unfold Bh
 rw[hf]
 simp only[hb]
 exact h
theorem gZ {ops:Array Oper} {K:Fr->St->Prop} {s:List AV} {marks:List Nat} {h:List (Nat×aI)} {nx:Nat} (n:Nat) (hn:ops.size=n) (h1:Vy ops=true) (h2:uS P G (ops.toList.map (·.dst)) (aKl K marks ⟨h,nx+n⟩) (hget h) (ops.toList.map qP) s):
  (OY F P G W rng (d+1)).draw ops K ⟨s,marks⟩ ⟨h,nx⟩:=by
 subst hn
 refine .inl ⟨h1,?_⟩
 rw[Ov]
 exact h2
theorem Xy {ops:Array Oper} {K:Fr->St->Prop} {s:List AV} {marks:List Nat} {h:List (Nat×aI)} {nx:Nat} (h1:vK ops (qF ops.toList [])=true)
 (h2:sF P G (ops.toList.map (·.dst)) (qF ops.toList []) nx (Nc K marks (nx+ops.size)) 0 (ops.toList.map qP) [] s (nD nx (news 0 ops.toList) h)):
 (OY F P G W rng (d+1)).draw ops K ⟨s,marks⟩ ⟨h,nx⟩:= .inr ⟨h1,h2⟩
theorem Oy {c:Code} {K:dU Prop} {fr:Fr} {st:St} (mask:List Bool) (accs:List (Nat×Nat)) (n1:Nat) (I:Nat->Fr->St->Prop) (h0: ∃st',St.norm st.nx n1 accs fr st=some st'/\ ∃m,I m (fr.norm st.nx mask accs) st')
 (h: ∀m fr1 st1,I m fr1 st1->fG P G (OY F P G W rng d) c (Ew K st.nx n1 mask accs m I) fr1 st1):(OY F P G W rng (d+1)).loop c K fr st:= .inl ⟨mask,accs,n1,I,h0,h⟩
theorem kJ {σ:Type} {c:Code} {K:dU Prop} {fr:Fr} {st:St} (mask:List Bool) (accs:List (Nat×Nat)) (n1:Nat) (n:Nat) (f:Nat->σ->Fr) (s:Nat->σ->St) (Q:Nat->σ->Prop) (x0:σ) (hq:Q 0 x0) (hs:St.norm st.nx n1 accs fr st=some (s 0 x0)) (hf:fr.norm st.nx mask accs=f 0 x0)
  (h: ∀i x,i<=n->Q i x->fG P G (OY F P G W rng d) c (Ew K st.nx n1 mask accs (n - i) (fun m fr st=> ∃i x,i<=n/\m=n - i/\Q i x/\fr=f i x/\st=s i x)) (f i x) (s i x)):(OY F P G W rng (d+1)).loop c K fr st:=by
 refine Oy mask accs n1 (fun m fr st=> ∃i x,i<=n/\m=n - i/\Q i x/\fr=f i x/\st=s i x) ⟨_,hs,n,0,x0,by omega,by omega,hq,hf,rfl⟩ ?_
 rintro m fr1 st1 ⟨i,x,hi,rfl,hQ,rfl,rfl⟩
 exact h i x hi hQ
theorem fJ {σ:Type} {n n1 i:Nat} {k:Nat} {mask:List Bool} {accs:List (Nat×Nat)} {f:Nat->σ->Fr} {s:Nat->σ->St} {Q:Nat->σ->Prop} {fr:Fr} {st:St} (x:σ) (hi:i<n) (hQ:Q (i+1) x) (hs:St.norm k n1 accs fr st=some (s (i+1) x)) (hf:fr.norm k mask accs=f (i+1) x):
  ∃st'',St.norm k n1 accs fr st=some st''/\ ∃m',m'<n - i/\ ∃j y,j<=n/\m'=n - j/\Q j y/\fr.norm k mask accs=f j y/\st''=s j y:=
 ⟨_,hs,n - (i+1),by omega,i+1,x,by omega,rfl,hQ,hf,rfl⟩
theorem aNt {c:Code} {K:dU Prop} {fr:Fr} {st:St} (n:Nat) (h:zW P G (OY F P G W rng d) c K n fr st):(OY F P G W rng (d+1)).loop c K fr st:= .inr ⟨n,h⟩
end
theorem aTp {R:Type} {H:Hand R} {a b:R}:Et H (.bool true) a b=a:=rfl
theorem aTq {R:Type} {H:Hand R} {a b:R}:Et H (.bool false) a b=b:=rfl
@[congr] theorem aWg {R:Type} {H:Hand R} {v v':AV} {a b:R} (h:v=v'):Et H v a b=Et H v' a b:=by rw[h]
theorem dL {H:Hand Prop} {q:Bool} {a b:Prop} (h1:q=true->a) (h2:q=false->b):Et H (.bool q) a b:=by
 cases q with
 |true=>exact h1 rfl
 |false=>exact h2 rfl
theorem aF {H:Hand Prop} {p:Prop} [Decidable p] {a b:Prop} (h1:p->a) (h2: ¬p->b):Et H (.bool (decide p)) a b:=by
 by_cases h:p
 ·rw[decide_eq_true h];exact h1 h
 ·rw[decide_eq_false h];exact h2 h
theorem wrap_in {n:Int} (h: -9223372036854775808<=n/\n<=9223372036854775807):IntKind.i64.wrap n=n:=IntWalk.i64_in n (by omega)
theorem jO {H:Hand Prop} {gds:List (Option Tmp)} {K:Fr->St->Prop} {rest:List kP} {d:Option Tmp} {fr:Fr} {st:St} {p:Prop} [Decidable p] {r:Option kK} (h1:p->nR P G H gds K rest d fr st (some true) r) (h0: ¬p->nR P G H gds K rest d fr st (some false) r):nR P G H gds K rest d fr st (some (decide p)) r:=by
 by_cases h:p
 ·rw[decide_eq_true h];exact h1 h
 ·rw[decide_eq_false h];exact h0 h
theorem iP {H:Hand Prop} {gds:List (Option Tmp)} {K:Fr->St->Prop} {rest:List kP} {d:Option Tmp} {fr:Fr} {st:St} {p:Prop} [Decidable p] {r:Option kK} (h1:p->nR P G H gds K rest d fr st (some false) r) (h0: ¬p->nR P G H gds K rest d fr st (some true) r):nR P G H gds K rest d fr st (some (!decide p)) r:=by
 by_cases h:p
 ·rw[decide_eq_true h];exact h1 h
 ·rw[decide_eq_false h];exact h0 h
theorem rW {H:Hand Prop} {gds:List (Option Tmp)} {K:Fr->St->Prop} {rest:List kP} {d:Option Tmp} {fr:Fr} {st:St} {b:Bool} {r:Option kK} (h1:b=true->nR P G H gds K rest d fr st (some true) r) (h0:b=false->nR P G H gds K rest d fr st (some false) r):nR P G H gds K rest d fr st (some b) r:=by
 cases b with
 |false=>exact h0 rfl
 |true=>exact h1 rfl
theorem jV {H:Hand Prop} {gds:List (Option Tmp)} {K:Fr->St->Prop} {rest:List kP} {d:Option Tmp} {fr:Fr} {st:St} {b:Bool} {r:Option kK} (h1:b=true->nR P G H gds K rest d fr st (some false) r) (h0:b=false->nR P G H gds K rest d fr st (some true) r):nR P G H gds K rest d fr st (some (!b)) r:=by
 cases b with
 |false=>exact h0 rfl
 |true=>exact h1 rfl
theorem uV {gds:List (Option Tmp)} {K:List AV->Prop} {g:Hp} {rest:List kP} {d:Option Tmp} {s:List AV} {ic:Bool} {p:Prop} [Decidable p] {r:Option kK} (h1:p->qE P G gds K g rest d s ic (some true) r) (h0: ¬p->qE P G gds K g rest d s ic (some false) r):qE P G gds K g rest d s ic (some (decide p)) r:=by
 by_cases h:p
 ·rw[decide_eq_true h];exact h1 h
 ·rw[decide_eq_false h];exact h0 h
theorem xW {gds:List (Option Tmp)} {K:List AV->Prop} {g:Hp} {rest:List kP} {d:Option Tmp} {s:List AV} {ic:Bool} {p:Prop} [Decidable p] {r:Option kK} (h1:p->qE P G gds K g rest d s ic (some false) r) (h0: ¬p->qE P G gds K g rest d s ic (some true) r):qE P G gds K g rest d s ic (some (!decide p)) r:=by
 by_cases h:p
 ·rw[decide_eq_true h];exact h1 h
 ·rw[decide_eq_false h];exact h0 h
theorem Dv {gds:List (Option Tmp)} {K:List AV->Prop} {g:Hp} {rest:List kP} {d:Option Tmp} {s:List AV} {ic:Bool} {b:Bool} {r:Option kK} (h1:b=true->qE P G gds K g rest d s ic (some false) r) (h0:b=false->qE P G gds K g rest d s ic (some true) r):qE P G gds K g rest d s ic (some (!b)) r:=by
 cases b with
 |false=>exact h0 rfl
 |true=>exact h1 rfl
theorem dS {H:Hand Prop} {q:Bool} {a b:Prop} (h1:q=true->b) (h2:q=false->a):Et H (.bool (!q)) a b:=by
 cases q with
 |true=>exact h1 rfl
 |false=>exact h2 rfl
theorem dI {F:Fence} {W:World} {rng:Bool} {d:Nat} (f:FuncId) {args:List AV} {K:AV->St->Prop} {st:St} (h:(OY F P G W rng d).call f args K st):(OY F P G W rng d).call f args K st:=h
theorem jR (f:FuncId) {gds:List (Option Tmp)} {K:List AV->Prop} {g:Hp} {rest:List kP} {d:Option Tmp} {s:List AV} {args:List AV} (h:qE P G gds K g rest d s true (some true) (some (.call f args))):qE P G gds K g rest d s true (some true) (some (.call f args)):=h
theorem fQ {F:Fence} {W:World} {rng:Bool} {d:Nat} {ops:Array Oper} {K:Fr->St->Prop} {s:List AV} {marks:List Nat} {h:List (Nat×aI)} {nx:Nat} (g:(OY F P G W rng (d+1)).draw ops K ⟨s,marks⟩ ⟨h,nx⟩):(OY F P G W rng (d+1)).draw ops K ⟨s,marks⟩ ⟨h,nx⟩:=g
theorem kT {H:Hand Prop} {gds:List (Option Tmp)} {K:Fr->St->Prop} {rest:List kP} {d:Option Tmp} {fr:Fr} {st:St} {r:Option kK} (h:l7 (nR P G H gds K rest d fr st (some true) r)):nR P G H gds K rest d fr st (some true) r:=h
theorem aNu {k:IntKind} {n:Int}:AV.plain (.int k n)= .int k n:=rfl
theorem Xz {k:Nat} {r:List AV} {t:Tk}:AV.plain (.sl k r t)= .sl k r .none:=rfl
theorem plain_fn {f:FuncId} {a b:List AV} (ha:AV.pureL a=true) (hb:AV.pureL b=true):AV.plain (.fn f a b)= .fn f a b:=by
 simp only[AV.plain,AV.plain0,AV.strip0,AV.pure,ha,hb,Bool.and_self,if_true]
end Go.Proofs.Pv
namespace Go.Proofs.Pv
open Go
def aMq:=PLift.up (ZI (ZI (ZI (ZI (ZI (ZI (ZI @aPz (ZI @aJ5 @aMz)) (ZI @aM0 (ZI @aM1 @aP0))) (ZI (ZI @aJ6 (ZI @aE9 @aM3)) (ZI (ZI @aM2 @aG8) (ZI @aMy @aE7)))) (ZI (ZI (ZI @aDz (ZI @aG9 @Zk)) (ZI (ZI @aTh @sK_at) (ZI @aQe @aE6))) (ZI (ZI @aJ4 (ZI @aMx @aNk)) (ZI (ZI @aKg @aTn) (ZI @aFa @aFb))))) (ZI (ZI (ZI (ZI @aQc (ZI @aQd @gwT)) (ZI @gwF (ZI @aVp @uu.eq_def))) (ZI (ZI @aQb (ZI @aNl @aKh)) (ZI (ZI @aP1 @aP2) (ZI @aTj @aTk)))) (ZI (ZI (ZI @aP8 (ZI @aTm @bD)) (ZI (ZI @aTl @hp_mk) (ZI @aP9 @aNm))) (ZI (ZI @aKj (ZI @aNn @aKk)) (ZI (ZI @vJ.eq_def @aM5) (ZI @aM6 @Rw.eq_def)))))) (ZI (ZI (ZI (ZI (ZI @jL.eq_def (ZI @Ad.eq_def @ev.eq_def)) (ZI @evK.eq_def (ZI @evC.eq_def @aB2.eq_def))) (ZI (ZI @evs.eq_1 (ZI @evs.eq_2 @aM4)) (ZI (ZI @aE8 @wK.eq_1) (ZI @wK.eq_2 @abin.eq_def)))) (ZI (ZI (ZI @aAl.eq_def (ZI @aun.eq_def @aEg.eq_def)) (ZI (ZI @aEf.eq_def @aAq.eq_def) (ZI @oBox.eq_def @aAr.eq_def))) (ZI (ZI @Qp.eq_def (ZI @Qo.eq_def @aLm.eq_def)) (ZI (ZI @nC.eq_def @Qn.eq_def) (ZI @Ic.eq_1 @Ic.eq_2))))) (ZI (ZI (ZI (ZI @Ic.eq_3 (ZI @Jr.eq_def @Aa.eq_def)) (ZI @aAn.eq_def (ZI @aGg.eq_def @aAo.eq_def))) (ZI (ZI @mkv.eq_def (ZI @splice.eq_def @AV.ite.eq_def)) (ZI (ZI @AV.isUndef.eq_def @AV.cells.eq_def) (ZI @AV.one.eq_def @Fr.fgt.eq_def)))) (ZI (ZI (ZI @kE.eq_1 (ZI @kE.eq_2 @kE.eq_3)) (ZI (ZI @AV.isMsl.eq_def @arrD0) (ZI @arrD1 @aFk))) (ZI (ZI @aKs (ZI @aNx @aA5)) (ZI (ZI @aEn @aG2) (ZI @aKi @wG.eq_def))))))) (ZI (ZI (ZI (ZI (ZI (ZI @xM.eq_def (ZI @setRows.eq_1 @setRows.eq_2)) (ZI @aAm.eq_def (ZI @oNil.eq_def @aEh.eq_def))) (ZI (ZI @evo.eq_def (ZI @aAp.eq_def @bnd.eq_def)) (ZI (ZI @aJ7 @aHb) (ZI @aM7 @aJ8)))) (ZI (ZI (ZI @aM8 (ZI @aJ9 @aP3)) (ZI (ZI @aM9 @aKa) (ZI @aHc @aNa))) (ZI (ZI @aKb (ZI @aNb @aKc)) (ZI (ZI @aNc @aP4) (ZI @aNd @aKd))))) (ZI (ZI (ZI (ZI @aNe (ZI @aP5 @aP6)) (ZI @aNf (ZI @aP7 @aTi))) (ZI (ZI @aKe (ZI @aNg @aKf)) (ZI (ZI @aNh @aNi) (ZI @aNj @Bool.false_eq_true)))) (ZI (ZI (ZI @Bool.and_true (ZI @Bool.true_and @and_true)) (ZI (ZI @true_and @and_self) (ZI @Nat.zero_le @Nat.add_zero))) (ZI (ZI @Nat.zero_add (ZI @Nat.le_refl @decide_true)) (ZI (ZI @decide_false @Bool.not_true) (ZI @Bool.not_false @Int.ofNat_zero)))))) (ZI (ZI (ZI (ZI (ZI @not_false_eq_true (ZI @Nat.add_left_cancel_iff @Nat.add_right_cancel_iff)) (ZI @Nat.left_eq_add (ZI @Nat.right_eq_add @Nat.add_eq_left))) (ZI (ZI @Nat.add_eq_right (ZI @Nat.succ_ne_self @false_or)) (ZI (ZI @or_false @or_self) (ZI @Nat.not_lt_zero @Bool.and_self)))) (ZI (ZI (ZI @Nat.lt_irrefl (ZI @Nat.mul_one @Nat.one_mul)) (ZI (ZI @aTp @aTq) (ZI @aFf @aKn))) (ZI (ZI @aNs (ZI @aJg @uN.eq_def)) (ZI (ZI @Iy.eq_1 @Iy.eq_2) (ZI @ares.eq_def @Aw.eq_def))))) (ZI (ZI (ZI (ZI @aTv (ZI @hdel.eq_1 @hdel.eq_2)) (ZI @aGe.eq_def (ZI @aQ6 @aOb))) (ZI (ZI @aQ7 (ZI @aOc @aK8)) (ZI (ZI @aOa @bY.eq_1) (ZI @bY.eq_2 @lI.eq_1)))) (ZI (ZI (ZI @lI.eq_2 (ZI @fO.eq_1 @fO.eq_2)) (ZI (ZI @iE.eq_1 @iE.eq_2) (ZI @nD.eq_def @news.eq_1))) (ZI (ZI @news.eq_2 (ZI @jA.eq_1 @jA.eq_2)) (ZI (ZI @jA.eq_3 @lX.eq_def) (ZI @AV.keysOf.eq_def @xB.eq_def))))))))
theorem aA:type_of% aMq.down:=aMq.down
def aR0:=PLift.up (ZI (ZI (ZI (ZI (ZI @List.getD_cons_zero.{0} (ZI @List.getD_cons_succ.{0} @List.set_cons_zero.{0})) (ZI @List.set_cons_succ.{0} (ZI @List.getElem?_cons_zero.{0} @List.getElem?_cons_succ.{0}))) (ZI (ZI @Option.map_some.{0,0} (ZI @if_true.{1} @if_false.{1})) (ZI @List.length_cons.{0} (ZI @List.length_nil.{0} @List.drop_zero.{0})))) (ZI (ZI (ZI @List.drop_succ_cons.{0} (ZI @List.take_succ_cons.{0} @List.take_zero.{0})) (ZI @List.head?_cons.{0} (ZI @List.nil_append.{0} @List.cons_append.{0}))) (ZI (ZI @List.append_nil.{0} (ZI @List.all_cons.{0} @List.all_nil.{0})) (ZI @Option.getD_some.{0} (ZI @List.map_cons.{0,0} @List.map_nil.{0,0}))))) (ZI (ZI (ZI (ZI @List.size_toArray.{0} (ZI @eq_self.{1} @List.replicate_succ.{0})) (ZI @List.replicate_zero.{0} (ZI @List.isEmpty_cons.{0} @List.isEmpty_nil.{0}))) (ZI (ZI @Int.cast_ofNat_Int (ZI @Int.toNat_zero @Int.toNat_natCast)) (ZI @Int.natCast_nonneg (ZI @beq_self_eq_true.{0} @Bool.not_true)))) (ZI (ZI (ZI @Bool.not_false (ZI @Bool.true_beq @Bool.false_beq)) (ZI @beq_true (ZI @beq_false @List.length_map.{0,0}))) (ZI (ZI @Bool.or_true (ZI @Bool.true_or @Bool.false_or)) (ZI (ZI @Bool.or_false @Bool.false_and) (ZI @Bool.and_false @List.getElem?_map.{0,0}))))))
theorem aC:type_of% aR0.down:=aR0.down
theorem ent0 (n:Nat) (args:List AV):uA n args=⟨args++List.replicate (n - args.length) .ud,[]⟩:=rfl
theorem ent1:st0=⟨[],0⟩:=rfl
def aR1:=PLift.up (ZI @List.length_cons.{0} (ZI @List.length_nil.{0} (ZI @List.cons_append.{0} (ZI @List.nil_append.{0} (ZI @List.replicate_succ.{0} (ZI @List.replicate_zero.{0} (ZI ent0 ent1)))))))
theorem aJ:type_of% aR1.down:=aR1.down
def tC:Nat->Nat->List Nat->List Bool
 |0,_,_=>[]
 |n+1,i,l=>l.any (Nat.beq i)::tC n (i+1) l
def fE (n:Nat) (l:List Nat):List Bool:=tC n 0 l
variable {R:Type} {P:Program} {G:Nat->Option (List AV)} {H:Hand R}
def aN5 (H:Hand R) (K:dU R):dU R:=fun x fr st=>match x with
 | .goto _=>H.fail
 |x=>K x fr st
theorem aKy {c:Code} {K:dU R} {fr:Fr} {st:St}:fG P G H (.scope c) K fr st=fG P G H c (aN5 H K) fr st:=rfl
theorem Pm {K:dU R} {fr:Fr} {st:St}:aN5 H K .ret fr st=K .ret fr st:=rfl
theorem aBn {f:Operand} {ps:Array Tmp} {ca bo:Code} {K:dU R} {fr:Fr} {st:St}:fG P G H (.rangeFunc f ps ca bo) K fr st=H.rangeF f ps ca bo K fr st:=rfl
def Na (H:Hand R) (K:dU R) (s:List AV) (marks:List Nat) (nx:Nat):AV->St->R:=fun _ st'=>match st'.hp (nx+1) with
 |some (.loop stt pd _ _ _ _ _)=>
  if stt= .busy then H.fail else
  match pd with
  |none=>K .normal ⟨s,nx::marks⟩ (Dw st' (nx+1))
  |some .ret=>K .ret ⟨s,nx::marks⟩ (Dw st' (nx+1))
  |some (.exit id)=>K (.exit id) ⟨s,nx::marks⟩ (Dw st' (nx+1))
  |_=>H.fail
 |_=>H.fail
theorem aHj {K:dU R} {s:List AV} {marks:List Nat} {nx:Nat} {v:AV} {st:St} {s1:List AV} {ps:Array Tmp} {ca bo:Code} {kd:Nat} (h:st.hp (nx+1)=some (.loop .ready none s1 ps ca bo kd)):Na H K s marks nx v st=K .normal ⟨s,nx::marks⟩ (Dw st (nx+1)):=by
 unfold Na;rw[h];rfl
theorem aKz {K:dU R} {s:List AV} {marks:List Nat} {nx:Nat} {v:AV} {st:St} {s1:List AV} {ps:Array Tmp} {ca bo:Code} {kd:Nat} (h:st.hp (nx+1)=some (.loop .done (some .ret) s1 ps ca bo kd)):Na H K s marks nx v st=K .ret ⟨s,nx::marks⟩ (Dw st (nx+1)):=by
 unfold Na;rw[h];rfl
theorem aQz {F:Fence} {W:World} {d:Nat} {f:Operand} {ps:Array Tmp} {ca bo:Code} {K:dU Prop} {fr:Fr} {st:St} (g:FuncId) (first cap:List AV) (he:ev P G fr.s 0 f= .fn g first cap) (hbd:Fz P g=true)
  (h:(OY F P G W true d).call g (first++[.yld (st.nx+1)]++cap) (Na (OY F P G W true d) K fr.s fr.marks st.nx) ⟨(st.nx+1,.loop .ready none fr.s ps ca bo st.nx)::(st.nx,.dfd true)::st.h,st.nx+2⟩):
  (OY F P G W true (d+1)).rangeF f ps ca bo K fr st:=by
 refine⟨rfl,?_⟩
 unfold Mc
 rw[he]
 simp only[hbd,if_true]
 exact h
structure Same (a b:Code):Prop where
 eq:a=b
theorem aN6 {F:Fence} {W:World} {d:Nat} {f:Operand} {ps:Array Tmp} {ca bo:Code} {K:dU Prop} {fr:Fr} {st:St} (g:FuncId) (first cap:List AV) (he:ev P G fr.s 0 f= .fn g first cap) (hbd:Fz P g=true)
 (h: ∀ca' bo',Same ca' ca->Same bo' bo->(OY F P G W true d).call g (first++[.yld (st.nx+1)]++cap) (Na (OY F P G W true d) K fr.s fr.marks st.nx) ⟨(st.nx+1,.loop .ready none fr.s ps ca' bo' st.nx)::(st.nx,.dfd true)::st.h,st.nx+2⟩):
 (OY F P G W true (d+1)).rangeF f ps ca bo K fr st:=aQz g first cap he hbd (h ca bo ⟨rfl⟩ ⟨rfl⟩)
def Nb (H:Hand R) (key:Nat) (K:AV->St->R):dU R:=fun x _ st2=>match st2.hp key with
 |some (.loop _ _ s2 ps2 as2 bo2 kd2)=>(match x with
  | .normal=>K (.bool true) (hput st2 key (.loop .ready none s2 ps2 as2 bo2 kd2))
  | .ret=>K (.bool false) (hput st2 key (.loop .done (some .ret) s2 ps2 as2 bo2 kd2))
  | .exit id=>K (.bool false) (hput st2 key (.loop .done (some (.exit id)) s2 ps2 as2 bo2 kd2))
  | .goto _=>H.fail)
 |_=>H.fail
def aK1 (P:Program) (G:Nat->Option (List AV)) (H:Hand R) (key:Nat) (body:Code) (K:AV->St->R):dU R:=fun x fr1 st1=>match x with
 | .normal=>(match st1.hp key with
  |some (.loop .ready pd1 s1 ps1 as1 bo1 kd1)=>fG P G H body (Nb H key K) fr1 (hput st1 key (.loop .busy pd1 s1 ps1 as1 bo1 kd1))
  |_=>H.fail)
 |_=>H.fail
theorem aQ0 {F:Fence} {W:World} {rng:Bool} {d:Nat} {key:Nat} {args:List AV} {K:AV->St->Prop} {st:St} {pd:Option Code} {s:List AV} {ps:Array Tmp} {ca bo:Code} {kd:Nat} (h1:st.hp key=some (.loop .ready pd s ps ca bo kd)) (h2:args.length=ps.size)
  (h:fG P G (OY F P G W false d) ca (aK1 P G (OY F P G W false d) key bo K) ⟨Bl s ps.toList args,[]⟩ st):(OY F P G W rng (d+1)).yield key args K st:=by
 show Lt P G (OY F P G W false d) key args K st
 unfold Lt
 rw[h1]
 simp only[h2,if_true]
 exact h
theorem aFq {key:Nat} {body:Code} {K:AV->St->R} {fr:Fr} {st:St} {pd:Option Code} {s:List AV} {ps:Array Tmp} {ca bo:Code} {kd:Nat} (h1:st.hp key=some (.loop .ready pd s ps ca bo kd)):aK1 P G H key body K .normal fr st=fG P G H body (Nb H key K) fr (hput st key (.loop .busy pd s ps ca bo kd)):=by
 unfold aK1;simp only[h1]
theorem aD0 {key:Nat} {K:AV->St->R} {fr:Fr} {st:St} {stt:LoopState} {pd:Option Code} {s:List AV} {ps:Array Tmp} {ca bo:Code} {kd:Nat} (h1:st.hp key=some (.loop stt pd s ps ca bo kd)):Nb H key K .normal fr st=K (.bool true) (hput st key (.loop .ready none s ps ca bo kd)):=by
 unfold Nb;simp only[h1]
theorem aK2 {key:Nat} {K:AV->St->R} {fr:Fr} {st:St} {stt:LoopState} {pd:Option Code} {s:List AV} {ps:Array Tmp} {ca bo:Code} {kd:Nat} (h1:st.hp key=some (.loop stt pd s ps ca bo kd)):Nb H key K .ret fr st=K (.bool false) (hput st key (.loop .done (some .ret) s ps ca bo kd)):=by
 unfold Nb;simp only[h1]
theorem aN7 {s:List AV}:Bl s [] []=s:=rfl
theorem aHk {gds:List (Option Tmp)} {K:Fr->St->R} {rest:List kP} {d:Option Tmp} {fr:Fr} {st:St} {key:Nat} {args:List AV}:nR P G H gds K rest d fr st (some true) (some (.yield key args))=H.yield key args (sK P G H gds K rest d fr) st:=rfl
theorem Zv {rs:List ResultVar} {fin:AV->St->AV×St} {K:AV->St->R} {s:List AV} {st st':St} {marks:List Nat} (h:uO marks st=some st'):mO P H rs fin K .ret ⟨s,marks⟩ st=match uN P st'.hp s rs with
  |some v=>match fin v st' with
   |(v',st'')=>K v' st''
  |none=>H.fail:=by
 show(match uO marks st with
  | some st'=>match uN P st'.hp s rs with
   |some v=>match fin v st' with
    |(v',st'')=>K v' st''
   |none=>H.fail
  |none=>H.fail)=_
 rw[h]
end Go.Proofs.Pv
