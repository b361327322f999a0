/-
The abstract machine, part BEa: drawn regions whose calls may lay and turn blocks that they are handed, or look at them.
Conditions: none but those that each statement names.
-/
import Derived.Test.YtlcnbhiklpfpjaaGreatDoorPvBA
set_option linter.unusedVariables false
set_option linter.unusedSimpArgs false
set_option maxRecDepth 100000
set_option maxHeartbeats 16000000
namespace Go.Proofs.Pv
open Go
variable {P:Program} {G:Nat->Option (List AV)}
abbrev CC:=FuncId->List AV->St->AV->St->Prop
def aSe (P:Program) (G:Nat->Option (List AV)) (cc:CC) (N:Nat) (nws:List Nat) (f:FuncId) (args:List AV) (p:Nat) (ak:List Nat) (nx0:Nat) (h:DH) (K:LE->Nat->AV->DH->Prop):Prop:=
 (∃r,Pl P G f args r/\K ⟨p,ak,[],true,false,true,0⟩ nx0 r h)\/
 (∃r R hr,Rd P G f args hr r/\(∀k b,hr k=some b->k∈R/\bY h k=some b)/\K ⟨p,ak++R,[],true,false,true,0⟩ nx0 r h)\/
 (∃R r st',cc f args ⟨jA (hsel R h),nx0+N⟩ r st'/\(st'.h.all fun x=>R.contains x.1||decide (nx0+N<=x.1))=true/\nx0+N<=st'.nx/\
  K ⟨p,ak++R,R,true,true,true,nx0+N⟩ st'.nx r (hkeep R h++nG st'.nx nws st'.h))
def qR (P:Program) (G:Nat->Option (List AV)) (cc:CC) (N:Nat) (nws:List Nat) (gds:List (Option Tmp)) (anc:List (List Nat)) (K:Nat->List AV->DH->Prop):Nat->List kQ->List LE->Nat->List AV->DH->Prop
 |_,[],log,nx0,s,h=>mY anc log=true/\K nx0 s h
 | p,o::rest,log,nx0,s,h=>match oP gds s o.guard with
  |none=>False
  |some false=>qR P G cc N nws gds anc K (p+1) rest (⟨p,[],[],false,false,false,0⟩::log) nx0 (gQ s o.dst uu) h
  |some true=>match jM P G s (bY h) (nx0+p) o.full with
   |some (.val v u)=>(u.all fun x=>fO h x.1)=true/\qR P G cc N nws gds anc K (p+1) rest (⟨p,lZ P G s o.full,u.map (·.1),false,false,xI o.op,0⟩::log) nx0 (gQ s o.dst v) (iE h u)
   |some (.skip u)=>(u.all fun x=>fO h x.1)=true/\qR P G cc N nws gds anc K (p+1) rest (⟨p,lZ P G s o.full,u.map (·.1),false,false,xI o.op,0⟩::log) nx0 (gQ s o.dst uu) (iE h u)
   |some (.call f args)=>aSe P G cc N nws f args p (lZ P G s o.full) nx0 h fun e nx r h'=>qR P G cc N nws gds anc K (p+1) rest (e::log) nx (gQ s o.dst r) h'
   |_=>False
theorem Hq {cc:CC} {ops:Array Oper} {anc:List (List Nat)} {K:Nat->List AV->DH->Prop}: ∀(l:List Oper) (k:Nat) (log:List LE) (nx0:Nat) (s:List AV) (h:DH),(∀j,l[j]?=ops[k+j]?)->
  qR P G cc ops.size (news 0 ops.toList) (ops.toList.map (·.dst)) anc K k (l.map qQ) log nx0 s h->
  mY anc log=true/\sS P G (fun y f args st v st'=>y=false/\cc f args st v st') ops anc K (List.range' k l.length) log nx0 s h
 |[],k,log,nx0,s,h,_,hw=>⟨hw.1,hw.2⟩
 | o ::rest,k,log,nx0,s,h,hl,hw=>by
  have ho:ops[k]?=some o:=by simpa using(hl 0).symm
  have hrest: ∀j,rest[j]?=ops[k+1+j]?:=fun j=>by
   have:=hl (j+1)
   rw[show k+1+j=k+(j+1) by omega,<-this];simp
  simp only[List.map_cons,qR] at hw
  rw[show(qQ o).guard=o.guard from rfl,<-Ff (ops:=ops)] at hw
  simp only[List.length_cons,List.range'_succ,sS]
  cases hwa:mW ops s o with
  |none=>rw[hwa] at hw;exact hw.elim
  | some c=>
   rw[hwa] at hw
   cases c with
   |false=>
    obtain⟨h1,h2⟩:=Hq rest (k+1) _ _ _ _ hrest hw
    simp only[mY,Bool.and_eq_true] at h1
    exact⟨h1.2,o,_,uu,h,nx0,ho,.inl ⟨hwa,rfl,rfl,rfl,rfl⟩,h1.1,h2⟩
   | true=>
    simp only at hw
    rw[<-Td,y8] at hw
    cases hop:jM P G s (bY h) (nx0+k) o with
    |none=>rw[hop] at hw;exact hw.elim
    | some r=>
     rw[hop] at hw
     cases r with
     |val v u=>
      obtain⟨hd,hw⟩:=hw
      obtain⟨h1,h2⟩:=Hq rest (k+1) _ _ _ _ hrest hw
      simp only[mY,Bool.and_eq_true] at h1
      exact⟨h1.2,o,_,v,iE h u,nx0,ho,.inr (.inl ⟨hwa,u,.inl hop,fun x hx=>List.all_eq_true.1 hd x hx,rfl,rfl,rfl⟩),h1.1,h2⟩
     |skip u=>
      obtain⟨hd,hw⟩:=hw
      obtain⟨h1,h2⟩:=Hq rest (k+1) _ _ _ _ hrest hw
      simp only[mY,Bool.and_eq_true] at h1
      exact⟨h1.2,o,_,uu,iE h u,nx0,ho,.inr (.inl ⟨hwa,u,.inr ⟨hop,rfl⟩,fun x hx=>List.all_eq_true.1 hd x hx,rfl,rfl,rfl⟩),h1.1,h2⟩
     | call f args=>
      rcases hw with⟨r,hr,hw⟩|⟨r,R,hr,hrd,hsub,hw⟩|⟨R,r,st',hc,hk,hn,hw⟩
      ·obtain⟨h1,h2⟩:=Hq rest (k+1) _ _ _ _ hrest hw
       simp only[mY,Bool.and_eq_true] at h1
       exact⟨h1.2,o,_,r,h,nx0,ho,.inr (.inr (.inl ⟨hwa,⟨f,args,hop,hr⟩,rfl,rfl,rfl⟩)),h1.1,h2⟩
      ·obtain⟨h1,h2⟩:=Hq rest (k+1) _ _ _ _ hrest hw
       simp only[mY,Bool.and_eq_true] at h1
       exact⟨h1.2,o,_,r,h,nx0,ho,.inr (.inr (.inr (.inr ⟨hwa,R,⟨f,args,hr,hop,hrd,hsub⟩,rfl,rfl,rfl⟩))),h1.1,h2⟩
      ·obtain⟨h1,h2⟩:=Hq rest (k+1) _ _ _ _ hrest hw
       simp only[mY,Bool.and_eq_true] at h1
       refine⟨h1.2,o,_,r,_,_,ho,.inr (.inr (.inr (.inl ⟨hwa,R,⟨false,f,args,st',hop,⟨rfl,hc⟩,fun x hx=>?_,hn,rfl,rfl⟩,rfl⟩))),h1.1,h2⟩
       have:=List.all_eq_true.1 hk x hx
       simpa using this
     |yield key args=>exact hw.elim
     |branch l=>exact hw.elim
def Zx (K:Fr->St->Prop) (marks:List Nat) (N:Nat):Nat->List AV->DH->Prop:=fun nx s h=>K ⟨s,marks⟩ ⟨jA h,nx+N⟩
theorem aW {K:Fr->St->Prop} {marks:List Nat} {N nx:Nat} {s:List AV} {h:DH}:Zx K marks N nx s h=K ⟨s,marks⟩ ⟨jA h,nx+N⟩:=rfl
theorem aTx {F:Fence} (hF:Free F) (hmix:P.follows .mixedOrders=true) {W:World} {id:Nat} {ops:Array Oper} {K:Fr->St->Prop} {fr:Fr} {st:St} {cc:CC} (hcc: ∀f args st v st',cc f args st v st'->aP F P G W f args (fun u su=>u=v/\su=st') st) (hs:vO ops (qH ops.toList [])=true)
  (h:qR P G cc ops.size (news 0 ops.toList) (ops.toList.map (·.dst)) (qH ops.toList []) (Zx K fr.marks ops.size) 0 (ops.toList.map qQ) [] st.nx fr.s (nG st.nx (news 0 ops.toList) st.h)):
  vV F P G W (.region id ops true) (fun x fr st=>match x with| .normal=>K fr st|_=>False) fr st:=by
 intro M a w n sim
 have hS:=(Hq ops.toList 0 [] st.nx fr.s _ (fun j=>by simp) h).2
 rw[<-List.range_eq_range'] at hS
 simp only[Array.length_toList] at hS
 refine wpIn_region_any hmix ?_
 refine Yf (P:=P) (G:=G) (W:=W) (gc:=fun y f args st v st'=>y=false/\cc f args st v st') (M0:=M) (marks:=fr.marks) hF (fun y f args st v st' h=>by obtain⟨rfl,h⟩:=h;simpa using hcc _ _ _ _ _ h) ⟨hs,Vy ops.toList [] [] rfl (fun i o hi=>by simp at hi),by rw[Po];simp⟩ (fun M' nx s h a w hM sim' hkk=>?_) ops.size (List.range ops.size) _ st.nx fr.s _ M a _ (by simp) (by simp) (fun i hi=>by simp [Array.getD,hi]) (fun i hi=>List.mem_range.1 hi) List.pairwise_lt_range
  (fun i hi hn=>absurd (List.mem_range.2 hi) hn) M.le_refl ?_ hS
 ·refine⟨M',⟨s,fr.marks⟩,⟨jA h,nx+ops.size⟩,.normal,hM,⟨?_,sim'.rs,sim'.defers⟩,rfl,hkk⟩
  exact(sim'.inv.more fun k hk=>hk.1).less fun k b hk=>Ht _ _ _ hk
 ·refine⟨?_,sim.rs,sim.defers⟩
  have inv:=sim.inv
  have inv':Inv G M (· <st.nx) st.hp W {w with drawn:=w.drawn+1}:=⟨inv.imm,inv.far,inv.os,inv.tape,inv.out,inv.fresh,inv.live,inv.inj,inv.glob,inv.has⟩
  refine(inv'.more fun k hk=>⟨?_,fun p _=>?_⟩).less fun k b hk=>Gp _ _ _ _ _ hk
  ·have:k<st.nx:=hk
   omega
  ·have:k<st.nx:=hk
   omega
section
variable {cc:CC} {N:Nat} {nws:List Nat} {gds:List (Option Tmp)} {anc:List (List Nat)} {K:Nat->List AV->DH->Prop}
def yK (P:Program) (G:Nat->Option (List AV)) (cc:CC) (N:Nat) (nws:List Nat) (gds:List (Option Tmp)) (anc:List (List Nat)) (K:Nat->List AV->DH->Prop) (p:Nat) (rest:List kQ) (d:Option Tmp) (log:List LE) (nx0:Nat) (s:List AV) (h:DH) (ak:List Nat) (un:Bool) (c:Option Bool) (r:Option kM):Prop:=
 match c with
 |none=>False
 |some false=>qR P G cc N nws gds anc K (p+1) rest (⟨p,[],[],false,false,false,0⟩::log) nx0 (gQ s d uu) h
 |some true=>match r with
  |some (.val v u)=>(u.all fun x=>fO h x.1)=true/\qR P G cc N nws gds anc K (p+1) rest (⟨p,ak,u.map (·.1),false,false,un,0⟩::log) nx0 (gQ s d v) (iE h u)
  |some (.skip u)=>(u.all fun x=>fO h x.1)=true/\qR P G cc N nws gds anc K (p+1) rest (⟨p,ak,u.map (·.1),false,false,un,0⟩::log) nx0 (gQ s d uu) (iE h u)
  |some (.call f args)=>aSe P G cc N nws f args p ak nx0 h fun e nx r h'=>qR P G cc N nws gds anc K (p+1) rest (e::log) nx (gQ s d r) h'
  |_=>False
theorem bF {p:Nat} {log:List LE} {nx0:Nat} {s:List AV} {h:DH}:qR P G cc N nws gds anc K p [] log nx0 s h=(mY anc log=true/\K nx0 s h):=rfl
theorem aU {p:Nat} {dst:Option Tmp} {op:Op} {ty:TypeId} {g:Option (Nat×Bool)} {rest:List kQ} {log:List LE} {nx0:Nat} {s:List AV} {h:DH}:
  qR P G cc N nws gds anc K p (⟨dst,op,ty,g⟩::rest) log nx0 s h=yK P G cc N nws gds anc K p rest dst log nx0 s h (lZ P G s ⟨dst,op,ty, "", #[],g⟩) (xI op) (oP gds s g) (jM P G s (bY h) (nx0+p) ⟨dst,op,ty, "", #[],g⟩):=by
 rfl
theorem pG {p:Nat} {rest:List kQ} {d:Option Tmp} {log:List LE} {nx0:Nat} {s:List AV} {h:DH} {ak:List Nat} {un:Bool} {r:Option kM}:yK P G cc N nws gds anc K p rest d log nx0 s h ak un (some false) r=qR P G cc N nws gds anc K (p+1) rest (⟨p,[],[],false,false,false,0⟩::log) nx0 (gQ s d uu) h:=rfl
theorem aV {p:Nat} {rest:List kQ} {d:Option Tmp} {log:List LE} {nx0:Nat} {s:List AV} {h:DH} {ak:List Nat} {un:Bool} {v:AV} {u:List (Nat×Option aI)}:yK P G cc N nws gds anc K p rest d log nx0 s h ak un (some true) (some (.val v u))=((u.all fun x=>fO h x.1)=true/\qR P G cc N nws gds anc K (p+1) rest (⟨p,ak,u.map (·.1),false,false,un,0⟩::log) nx0 (gQ s d v) (iE h u)):=rfl
theorem dB {p:Nat} {rest:List kQ} {d:Option Tmp} {log:List LE} {nx0:Nat} {s:List AV} {h:DH} {ak:List Nat} {un:Bool} {u:List (Nat×Option aI)}:yK P G cc N nws gds anc K p rest d log nx0 s h ak un (some true) (some (.skip u))=((u.all fun x=>fO h x.1)=true/\qR P G cc N nws gds anc K (p+1) rest (⟨p,ak,u.map (·.1),false,false,un,0⟩::log) nx0 (gQ s d uu) (iE h u)):=rfl
theorem bW {p:Nat} {rest:List kQ} {d:Option Tmp} {log:List LE} {nx0:Nat} {s:List AV} {h:DH} {ak:List Nat} {un:Bool} {f:FuncId} {args args':List AV} {r:AV} (hc:PC P G f args' (fun v=>v=r)) (he:args.map AV.plain=args') (hk:qR P G cc N nws gds anc K (p+1) rest (⟨p,ak,[],true,false,true,0⟩::log) nx0 (gQ s d r) h):
  yK P G cc N nws gds anc K p rest d log nx0 s h ak un (some true) (some (.call f args)):=by
 subst he
 exact .inl ⟨r,hc,hk⟩
theorem gV {p:Nat} {rest:List kQ} {d:Option Tmp} {log:List LE} {nx0:Nat} {s:List AV} {h:DH} {ak:List Nat} {un:Bool} {f:FuncId} {args:List AV} {r:AV} (R:List Nat) (hr:Hp) (hc:Rd P G f args hr r) (hs: ∀k b,hr k=some b->k∈R/\bY h k=some b) (hk:qR P G cc N nws gds anc K (p+1) rest (⟨p,ak++R,[],true,false,true,0⟩::log) nx0 (gQ s d r) h):
 yK P G cc N nws gds anc K p rest d log nx0 s h ak un (some true) (some (.call f args)):= .inr (.inl ⟨r,R,hr,hc,hs,hk⟩)
theorem kK {p:Nat} {rest:List kQ} {d:Option Tmp} {log:List LE} {nx0:Nat} {s:List AV} {h:DH} {ak:List Nat} {un:Bool} {f:FuncId} {args:List AV} {r:AV} {st0 st':St} (R:List Nat) (h0:(⟨jA (hsel R h),nx0+N⟩:St)=st0) (hc:cc f args st0 r st') (h1:(st'.h.all fun x=>R.contains x.1||decide (nx0+N<=x.1))=true) (h2:nx0+N<=st'.nx)
  (hk:qR P G cc N nws gds anc K (p+1) rest (⟨p,ak++R,R,true,true,true,nx0+N⟩::log) st'.nx (gQ s d r) (hkeep R h++nG st'.nx nws st'.h)):
  yK P G cc N nws gds anc K p rest d log nx0 s h ak un (some true) (some (.call f args)):=by
 subst h0
 exact .inr (.inr ⟨R,r,st',hc,h1,h2,hk⟩)
theorem dG (f:FuncId) {p:Nat} {rest:List kQ} {d:Option Tmp} {log:List LE} {nx0:Nat} {s:List AV} {h:DH} {ak:List Nat} {un:Bool} {args:List AV} (g:yK P G cc N nws gds anc K p rest d log nx0 s h ak un (some true) (some (.call f args))):yK P G cc N nws gds anc K p rest d log nx0 s h ak un (some true) (some (.call f args)):=g
theorem aKy {p:Nat} {rest:List kQ} {d:Option Tmp} {log:List LE} {nx0:Nat} {s:List AV} {h:DH} {ak:List Nat} {un:Bool} {r:Option kM} (g:aAa (yK P G cc N nws gds anc K p rest d log nx0 s h ak un (some true) r)):yK P G cc N nws gds anc K p rest d log nx0 s h ak un (some true) r:=g
end
end Go.Proofs.Pv
namespace Go.Proofs.Pv
open Go
variable {P:Program} {G:Nat->Option (List AV)}
structure dH (n n1:Nat) (f g:Nat->Option Nat) (marks:List Nat):Prop where
 fg: ∀k k',f k=some k'->g k'=some k
 low: ∀k,k<n->f k=some k
 top: ∀k',¬k'<n1->g k'=none
 mks: ∀k∈marks,k<n
def aG (f:Nat->Option Nat) (h h':List (Nat×aI)):Prop:= ∀k' b',hget h' k'=some b'-> ∃k b,f k=some k'/\hget h k=some b/\b.ren f=some b'
def Fr.renF (f:Nat->Option Nat) (mask:List Bool) (fr:Fr):Fr:=⟨(kF mask fr.s).map (AV.ren f),fr.marks⟩
def Mem.renG (g:Nat->Option Nat) (M:Mem):Mem:= {I:=M.I,L:=fun k=>(g k).bind M.L,T:=fun k=>(g k).bind M.T,F:=M.F}
theorem Mem.le_renG {n n1:Nat} {f g:Nat->Option Nat} {marks:List Nat} {M0 M:Mem} (h:M0.le M) (hf: ∀k,¬k<n->M0.L k=none/\M0.T k=none) (ok:dH n n1 f g marks):M0.le (M.renG g):=by
 refine⟨h.I,fun k b hk=>?_,fun k x hk=>?_,h.F,h.IF⟩
 ·have:k<n:=by
   by_cases h':k<n
   ·exact h'
   ·rw[(hf k h').1] at hk;cases hk
  simp only[Mem.renG,ok.fg k k (ok.low k this),Option.bind_some]
  exact h.L k b hk
 ·have:k<n:=by
   by_cases h':k<n
   ·exact h'
   ·rw[(hf k h').2] at hk;cases hk
  simp only[Mem.renG,ok.fg k k (ok.low k this),Option.bind_some]
  exact h.T k x hk
theorem dC.renG {f g:Nat->Option Nat} (fg: ∀k k',f k=some k'->g k'=some k) {M:Mem} {k k':Nat} (hk:f k=some k') {b b':aI} {ob:Obj} (h:dC M k b ob) (hb:b.ren f=some b'):dC (M.renG g) k' b' ob:=by
 have hL: ∀k k' b,f k=some k'->M.L k=some b->(M.renG g).L k'=some b:=fun k k' b h1 h2=>by simp only[Mem.renG,fg k k' h1,Option.bind_some];exact h2
 have hTT: ∀k k' b,f k=some k'->M.T k=some b->(M.renG g).T k'=some b:=fun k k' b h1 h2=>by simp only[Mem.renG,fg k k' h1,Option.bind_some];exact h2
 have hr: ∀ {a:AV} {v:Value},M.rel a v->(M.renG g).rel (a.ren f) v:=fun r=>aQ.ren r hL hTT
 have hT: ∀ {x},M.T k=some x->(M.renG g).T k'=some x:=fun h=>hTT _ _ _ hk h
 cases b with
 |cells cs=>
  simp only[aI.ren,Option.some.injEq] at hb;subst hb
  cases ob<;>simp only[dC] at h ⊢
  obtain⟨h1,h2,h3,b,z,h4,h5⟩:=h
  exact⟨h1,by simpa using h2,fun i hi hi'=>by simpa using hr (h3 i (by simpa using hi) hi'),b,z,hT h4,h5⟩
 |tok=>
  simp only[aI.ren,Option.some.injEq] at hb;subst hb
  cases ob<;>simp only[dC] at h ⊢
  obtain⟨h1,b,e,z,h4,h5⟩:=h
  exact⟨h1,b,e,z,hT h4,h5⟩
 |map es c=>
  simp only[aI.ren,Option.some.injEq] at hb;subst hb
  cases ob<;>simp only[dC] at h ⊢
  obtain⟨h1,h2,h3⟩:=h
  refine⟨h1,by simpa using h2,fun i hi hi'=>?_⟩
  obtain⟨g1,g2,g3⟩:=h3 i (by simpa using hi) hi'
  simp only[List.getElem_map,ME.ren]
  exact⟨hr g1,hr g2,g3⟩
 |sit s p=>
  simp only[aI.ren,Option.some.injEq] at hb;subst hb
  cases ob<;>simp only[dC] at h ⊢
  exact h
 | mit m a b c=>
  simp only[aI.ren] at hb
  split at hb
  ·rename_i m' hm
   simp only[Option.some.injEq] at hb;subst hb
   cases ob<;>simp only[dC] at h ⊢
   obtain⟨⟨q,h1,h2⟩,h3⟩:=h
   exact⟨⟨q,hL _ _ _ hm h1,h2⟩,h3⟩
  ·cases hb
 |nmit=>
  simp only[aI.ren,Option.some.injEq] at hb;subst hb
  cases ob<;>simp only[dC] at h ⊢
  exact h
 | loop st pd s ps as bo d=>
  simp only[aI.ren] at hb
  split at hb
  ·rename_i d' hd
   simp only[Option.some.injEq] at hb;subst hb
   cases ob<;>simp only[dC] at h ⊢
   obtain⟨h1,h2,h3,h4,h5,h6,h7,h8⟩:=h
   exact⟨h1,h2,h3,h4,h5,hL _ _ _ hd h6,by simpa using h7,fun i hi hi'=>by simpa using hr (h8 i (by simpa using hi) hi')⟩
  ·cases hb
 |dfd o=>
  simp only[aI.ren,Option.some.injEq] at hb;subst hb
  cases ob<;>simp only[dC] at h ⊢
  exact h
theorem Inv.renG {W w:World} {M:Mem} {h h':List (Nat×aI)} {nx n1:Nat} {f g:Nat->Option Nat} (inv:Inv G M (· <nx) (hget h) W w) (fg: ∀k k',f k=some k'->g k'=some k) (top: ∀k',¬k'<n1->(g k').bind M.L=none/\(g k').bind M.T=none) (hr:aG f h h'):Inv G (M.renG g) (· <n1) (hget h') W w:=by
 have hbo: ∀ {k k':Nat} {b b':aI} {q:Nat},f k=some k'->b.ren f=some b'->M.blockOf k b=some q->(M.renG g).blockOf k' b'=some q:=by
  intro k k' b b' q h1 h2 h3
  unfold Mem.blockOf at h3 ⊢
  rw[aI.ren_tok h2]
  split
  ·rename_i ht
   rw[if_pos ht] at h3
   simp only[Mem.renG,fg _ _ h1,Option.bind_some];exact h3
  ·rename_i ht
   rw[if_neg ht] at h3
   simp only[Mem.renG,fg _ _ h1,Option.bind_some];exact h3
 have same: ∀ {k k':Nat} {b b':aI} {q:Nat},f k=some k'->b.ren f=some b'->hget h k=some b->(M.renG g).blockOf k' b'=some q->M.blockOf k b=some q:=by
  intro k k' b b' q h1 h2 h3 h4
  obtain⟨b0,ob,m1,_⟩:=inv.live k b h3
  rw[hbo h1 h2 m1] at h4
  cases h4;exact m1
 refine⟨inv.imm,inv.far,inv.os,inv.tape,inv.out,fun key hkey=>?_,fun key blk hb=>?_,fun k1 k2 b1 b2 b h1 h2 h3 h4=>?_,fun q cells hg=>inv.glob q cells hg,fun _ _ _=>trivial⟩
 ·exact top key hkey
 ·obtain⟨q,b0,k1,k2,k3⟩:=hr key blk hb
  obtain⟨b,ob,m1,m2,m3,m4,m5⟩:=inv.live q b0 k2
  exact⟨b,ob,hbo k1 k3 m1,m2,m3.renG fg k1 k3,m4,fun ht=>m5 (by rw[<-aI.ren_tok k3];exact ht)⟩
 ·obtain⟨q1,c1,r1,r2,r3⟩:=hr k1 b1 h1
  obtain⟨q2,c2,s1,s2,s3⟩:=hr k2 b2 h2
  have e:=inv.inj q1 q2 c1 c2 b r2 s2 (same r1 r3 r2 h3) (same s1 s3 s2 h4)
  subst e
  rw[r1] at s1
  exact Option.some.inj s1
theorem vU.renF {W:World} {M:Mem} {fr:Fr} {st st':St} {a:Act} {w:World} {n n1:Nat} {f g:Nat->Option Nat} {mask:List Bool} (sim:vU G W M fr st a w) (ok:dH n n1 f g fr.marks) (hr:aG f st.h st'.h) (hn:st'.nx=n1):
  vU G W (M.renG g) (fr.renF f mask) st' a w:=by
 have hL: ∀k k' b,f k=some k'->M.L k=some b->(M.renG g).L k'=some b:=fun k k' b h1 h2=>by simp only[Mem.renG,ok.fg k k' h1,Option.bind_some];exact h2
 have hT: ∀k k' b,f k=some k'->M.T k=some b->(M.renG g).T k'=some b:=fun k k' b h1 h2=>by simp only[Mem.renG,ok.fg k k' h1,Option.bind_some];exact h2
 have hre: ∀ {a:AV} {v:Value},M.rel a v->(M.renG g).rel (a.ren f) v:=fun r=>aQ.ren r hL hT
 refine⟨?_,⟨?_,fun i h1 h2=>?_⟩,sim.defers.1,fun i key hi=>?_⟩
 ·subst hn
  exact Inv.renG sim.inv ok.fg (fun k' hk'=>by rw[ok.top k' hk'];exact⟨rfl,rfl⟩) hr
 ·simp only[Fr.renF,List.length_map,yP];exact sim.rs.1
 ·have h1':i< (kF mask fr.s).length:=by simpa [Fr.renF] using h1
  have h0:i<fr.s.length:=by simpa [yP] using h1'
  simp only[Fr.renF,List.getElem_map]
  exact hre (Oy mask fr.s i _ h0 h1' (sim.rs.2 i h0 h2))
 ·obtain⟨l,k1,k2⟩:=sim.defers.2 i key hi
  exact⟨l,hL _ _ _ (ok.low key (ok.mks key (List.mem_of_getElem? hi))) k1,k2⟩
def Vu (K:dU Prop) (n n1:Nat) (mask:List Bool) (m:Nat) (I:Nat->Fr->St->Prop):dU Prop:=fun x fr' st'=>match x with
 | .normal=> ∃f g st'',dH n n1 f g fr'.marks/\aG f st'.h st''.h/\st''.nx=n1/\ ∃m',m'<m/\I m' (fr'.renF f mask) st''
 |x=>K x fr' st'
theorem aT {K:dU Prop} {n n1:Nat} {mask:List Bool} {m:Nat} {I:Nat->Fr->St->Prop} {id:Nat} {fr:Fr} {st:St}:Vu K n n1 mask m I (.exit id) fr st=K (.exit id) fr st:=rfl
theorem rF {K:dU Prop} {n n1:Nat} {mask:List Bool} {m:Nat} {I:Nat->Fr->St->Prop} {fr:Fr} {st:St}:Vu K n n1 mask m I .ret fr st=K .ret fr st:=rfl
def OZ (F:Fence) (P:Program) (G:Nat->Option (List AV)) (W:World):Bool->Nat->Hand Prop
 |_,0=> {SH F P G W with loop:=fun _ _ _ _=>False,draw:=fun _ _ _ _=>False,rangeF:=fun _ _ _ _ _ _ _=>False,yield:=fun _ _ _ _=>False}
 |rng,d+1=> {SH F P G W with
  loop:=fun c K fr st=>((∃(mask:List Bool) (accs:List (Nat×Nat)) (n1:Nat) (I:Nat->Fr->St->Prop),(∃st',St.norm st.nx n1 accs fr st=some st'/\ ∃m,I m (fr.norm st.nx mask accs) st')/\ ∀m fr1 st1,I m fr1 st1->fG P G (OZ F P G W rng d) c (Fg K st.nx n1 mask accs m I) fr1 st1)\/ ∃n,Aa P G (OZ F P G W rng d) c K n fr st)\/(∃(mask:List Bool) (n1:Nat) (I:Nat->Fr->St->Prop),(∃f g st',dH st.nx n1 f g fr.marks/\aG f st.h st'.h/\st'.nx=n1/\ ∃m,I m (fr.renF f mask) st')/\ ∀m fr1 st1,I m fr1 st1->fG P G (OZ F P G W rng d) c (Vu K st.nx n1 mask m I) fr1 st1)
  rangeF:=fun f ps assign body K fr st=>rng=true/\Nb P G (OZ F P G W true d) f ps assign body K fr st
  yield:=fun key args K st=>Md P G (OZ F P G W false d) key args K st
  draw:=fun ops K fr st=>((Wh ops=true/\Ea P G ops (fun s=>K ⟨s,fr.marks⟩ ⟨st.h,st.nx+ops.size⟩) st.hp ops.toList fr.s)\/(vO ops (qH ops.toList [])=true/\sJ P G (ops.toList.map (·.dst)) (qH ops.toList []) st.nx (Nk K fr.marks (st.nx+ops.size)) 0 (ops.toList.map qQ) [] fr.s (nG st.nx (news 0 ops.toList) st.h)))\/(vO ops (qH ops.toList [])=true/\qR P G (fun f args st v st'=>aP F P G W f args (fun u su=>u=v/\su=st') st) ops.size (news 0 ops.toList) (ops.toList.map (·.dst)) (qH ops.toList []) (Zx K fr.marks ops.size) 0 (ops.toList.map qQ) [] st.nx fr.s (nG st.nx (news 0 ops.toList) st.h))}
theorem Jg {F0:Fence} (hmix:P.follows .mixedOrders=true) (W:World): ∀(d:Nat) (rng:Bool) (F:Fence),Free F->F.plain=F0->(rng=true->F.round=none)->yE F P G W id (OZ F0 P G W rng d):=by
 intro d
 induction d with
 | zero=>
  intro rng F hF h0 hr
  have hcall: ∀f args K st,qY F0 P G W f args K st->qY F P G W f args (fun v st=>K v st) st:=by
   intro f args K st h
   rcases h with h|h
   ·refine .inl ?_
    intro M w vs inv hargs
    subst h0
    obtain⟨h1,h2⟩:=h M w vs inv hargs
    exact⟨h1,fun n=>h2 n⟩
   ·exact .inr h
  cases rng<;>exact⟨fun h=>h,hcall,fun _ _ _ _ h=>h.elim,fun _ _ _ _ h=>h.elim,fun _ _ _ _ _ _ _ h=>h.elim,fun id _ _ _ _ h=>h.elim,fun _ h=>h⟩
 | succ d ih=>
  intro rng F hF h0 hr
  have hcall: ∀f args K st,qY F0 P G W f args K st->qY F P G W f args (fun v st=>K v st) st:=by
   intro f args K st h
   rcases h with h|h
   ·refine .inl ?_
    intro M w vs inv hargs
    subst h0
    obtain⟨h1,h2⟩:=h M w vs inv hargs
    exact⟨h1,fun n=>h2 n⟩
   ·exact .inr h
  refine⟨fun h=>h,hcall,fun c K fr st h=>?_,fun key args K st h=>?_,fun f ps assign body K fr st h=>?_,fun i ops K fr st h=>?_,fun _ h=>h⟩
  ·rcases h with(⟨mask,accs,n1,I,⟨st',hst,m,hm⟩,hround⟩|⟨n,hn⟩)|⟨mask,n1,I,⟨f,g,st',hok,hhr,hn1,m,hm⟩,hround⟩
   ·intro M a w n sim
    have hfresh: ∀k,¬k<st.nx->M.L k=none/\M.T k=none:=fun k hk=>sim.inv.fresh k hk
    let J:Nat->Act->World->Prop:=fun m a w=> ∃M' fr1 st1,M.le M'/\vU G W M' fr1 st1 a w/\I m fr1 st1
    obtain⟨ρ,sim0⟩:=sim.norm (mask:=mask) hst
    refine wpIn_loop (fun a w=> ∃m,J m a w) (fun a w=>least fun m=>J m a w) ⟨m,_,_,_,Mem.le_named M.le_refl hfresh,sim0,hm⟩ ?_
    rintro a w ⟨m0,hm0⟩
    obtain⟨h1,h2⟩:=xO (p:=fun m=>J m a w) hm0
    obtain⟨M',fr',st',g1,g2,g3⟩:=h1
    refine wpIn_mono (rM hF (ih rng F hF h0 hr) c _ _ _ (hround _ _ st' g3) M' a w n g2) ?_
    rintro e a' w' ⟨M2,fr2,st2,x,k1,k2,rfl,k4⟩
    cases x with
    |normal=>
     obtain⟨st3,hst3,m',hlt,hI⟩:=k4
     obtain⟨ρ',sim3⟩:=k2.norm (mask:=mask) hst3
     have hJ:J m' a' w':=⟨_,_,_,Mem.le_named (Mem.le_trans g1 k1) hfresh,sim3,hI⟩
     exact⟨⟨m',hJ⟩,Nat.lt_of_le_of_lt ((xO (p:=fun m=>J m a' w') hJ).2 m' hJ) hlt⟩
    |exit id=>exact⟨M2,fr2,st2,.exit id,Mem.le_trans g1 k1,k2,rfl,k4⟩
    |goto l=>exact⟨M2,fr2,st2,.goto l,Mem.le_trans g1 k1,k2,rfl,k4⟩
    |ret=>exact⟨M2,fr2,st2,.ret,Mem.le_trans g1 k1,k2,rfl,k4⟩
   ·exact aFn hF (ih rng F hF h0 hr) n fr st hn
   ·intro M a w n sim
    have hfresh: ∀k,¬k<st.nx->M.L k=none/\M.T k=none:=fun k hk=>sim.inv.fresh k hk
    let J:Nat->Act->World->Prop:=fun m a w=> ∃M' fr1 st1,M.le M'/\vU G W M' fr1 st1 a w/\I m fr1 st1
    have sim0:=sim.renF (mask:=mask) hok hhr hn1
    refine wpIn_loop (fun a w=> ∃m,J m a w) (fun a w=>least fun m=>J m a w) ⟨m,_,_,_,Mem.le_renG M.le_refl hfresh hok,sim0,hm⟩ ?_
    rintro a w ⟨m0,hm0⟩
    obtain⟨h1,h2⟩:=xO (p:=fun m=>J m a w) hm0
    obtain⟨M',fr',st',g1,g2,g3⟩:=h1
    refine wpIn_mono (rM hF (ih rng F hF h0 hr) c _ _ _ (hround _ _ st' g3) M' a w n g2) ?_
    rintro e a' w' ⟨M2,fr2,st2,x,k1,k2,rfl,k4⟩
    cases x with
    |normal=>
     obtain⟨f2,g2',st3,hok2,hhr2,hn2,m',hlt,hI⟩:=k4
     have sim3:=k2.renF (mask:=mask) hok2 hhr2 hn2
     have hJ:J m' a' w':=⟨_,_,_,Mem.le_renG (Mem.le_trans g1 k1) hfresh hok2,sim3,hI⟩
     exact⟨⟨m',hJ⟩,Nat.lt_of_le_of_lt ((xO (p:=fun m=>J m a' w') hJ).2 m' hJ) hlt⟩
    |exit id=>exact⟨M2,fr2,st2,.exit id,Mem.le_trans g1 k1,k2,rfl,k4⟩
    |goto l=>exact⟨M2,fr2,st2,.goto l,Mem.le_trans g1 k1,k2,rfl,k4⟩
    |ret=>exact⟨M2,fr2,st2,.ret,Mem.le_trans g1 k1,k2,rfl,k4⟩
  ·exact aC6 hF (fun l=>ih false (F.inRound l) ⟨hF.fn,hF.depth⟩ h0 (fun h=>by cases h)) (ih false F hF h0 (fun h=>by cases h)).fail h
  ·obtain⟨rfl,h⟩:=h
   exact Zu hF (hr rfl) (ih true F hF h0 hr) h
  ·rcases h with(h|h)|h
   ·exact aOg hF hmix h.1 h.2
   ·exact aI5 hF hmix h.1 h.2
   ·refine aTx hF hmix (fun f args st v st' hc=>?_) h.1 h.2
    intro M w vs inv hargs
    subst h0
    obtain⟨h1,h2⟩:=hc M w vs inv hargs
    exact⟨h1,fun n=>h2 n⟩
open Classical in
theorem PC.introZ (d:Nat) (hmix:P.follows .mixedOrders=true) {f:FuncId} {fn:Func} {c:Code} {args:List AV} {R:AV->Prop} (hf:P.funcs[f]?=some fn) (hb:fn.body=some c) (hname:fn.name≠ "runtime.NumGoroutine")
  (h: ∀(F:Fence),Free F->F.round=none-> ∀(W:World),fG P G (OZ F P G W true d) c (mP P (OZ F P G W true d) fn.results.toList (fun v st=>(v,st)) fun v _=>v.stripR.pureR=true/\R v.stripR) (uG fn.ntmps args) st0):PC P G f args R:=by
 refine PC.introH (fun F W=>if F.round=none then OZ F.plain P G W true d else SH F P G W) (fun F hF W=>?_) hf hb hname fun F hF hro W=>?_
 ·by_cases hro:F.round=none
  ·rw[if_pos hro];exact Jg hmix W d true F hF rfl (fun _=>hro)
  ·rw[if_neg hro];exact aR4 F W
 ·rw[if_pos hro]
  exact h F.plain ⟨hF.fn,hF.depth⟩ rfl W
section
variable {F:Fence} {W:World} {rng:Bool} {d:Nat}
theorem nH {f:FuncId} {args:List AV} {K:AV->St->Prop} {st:St} (h:aP F P G W f args K st):(OZ F P G W rng d).call f args K st:=by
 cases d with
 |zero=>cases rng<;>exact .inl h
 |succ d=>exact .inl h
theorem Ls {f:FuncId} {args:List AV} {K:AV->St->Prop} {st:St} (h:aLk P G W f args K st):(OZ F P G W rng d).call f args K st:=by
 cases d with
 |zero=>cases rng<;>exact .inr h
 |succ d=>exact .inr h
theorem PC.useZ (hF:Free F) {f:FuncId} {args args':List AV} {R:AV->Prop} (h:PC P G f args' R) (he:args.map AV.plain=args') {K:AV->St->Prop} {st:St} (hK: ∀v,R v->K v st):
  (OZ F P G W rng d).call f args K st:=by
 subst he
 exact nH (PC.callOk hF h hK)
theorem iI (hF:Free F) (hro:F.round=none) (hmix:P.follows .mixedOrders=true) (hname: ∀(f:Nat) (fn:Func),P.funcs[f]?=some fn->fn.name≠ "runtime.NumGoroutine") (d':Nat) {f:FuncId} {fn:Func} {c:Code} {args:List AV} {K:AV->St->Prop} {st:St} (hf:P.funcs[f]?=some fn) (hb:fn.body=some c)
  (h:fG P G (OZ F P G W true d') c (mP P (OZ F P G W true d') fn.results.toList (fun v st=>(v,st)) K) (uG fn.ntmps args) st):(OZ F P G W rng d).call f args K st:=by
 have hpl:F.plain=F:=by cases F;simp only[Fence.plain] at hro ⊢;simp_all
 refine nH (wR (ok:=id) hF hro hname (Jg hmix W d' true F hF hpl (fun _=>hro)) (fin:=fun _ _ v st=>(v,st)) (fun _ _ _ _ _ _ _ _ inv hv=>⟨_,Mem.le_refl _,inv,hv⟩) ?_)
 unfold Bq
 rw[hf]
 simp only[hb]
 exact h
theorem kJ {ops:Array Oper} {K:Fr->St->Prop} {s:List AV} {marks:List Nat} {h:List (Nat×aI)} {nx:Nat} (n:Nat) (hn:ops.size=n) (h1:Wh ops=true) (h2:uV P G (ops.toList.map (·.dst)) (aKt K marks ⟨h,nx+n⟩) (hget h) (ops.toList.map qQ) s):
  (OZ F P G W rng (d+1)).draw ops K ⟨s,marks⟩ ⟨h,nx⟩:=by
 subst hn
 refine .inl (.inl ⟨h1,?_⟩)
 rw[Oz]
 exact h2
theorem jH {ops:Array Oper} {K:Fr->St->Prop} {s:List AV} {marks:List Nat} {h:List (Nat×aI)} {nx:Nat} (h1:vO ops (qH ops.toList [])=true)
 (h2:sJ P G (ops.toList.map (·.dst)) (qH ops.toList []) nx (Nk K marks (nx+ops.size)) 0 (ops.toList.map qQ) [] s (nG nx (news 0 ops.toList) h)):
 (OZ F P G W rng (d+1)).draw ops K ⟨s,marks⟩ ⟨h,nx⟩:= .inl (.inr ⟨h1,h2⟩)
theorem bM {ops:Array Oper} {K:Fr->St->Prop} {s:List AV} {marks:List Nat} {h:List (Nat×aI)} {nx:Nat} (h1:vO ops (qH ops.toList [])=true)
 (h2:qR P G (fun f args st v st'=>aP F P G W f args (fun u su=>u=v/\su=st') st) ops.size (news 0 ops.toList) (ops.toList.map (·.dst)) (qH ops.toList []) (Zx K marks ops.size) 0 (ops.toList.map qQ) [] nx s (nG nx (news 0 ops.toList) h)):
 (OZ F P G W rng (d+1)).draw ops K ⟨s,marks⟩ ⟨h,nx⟩:= .inr ⟨h1,h2⟩
theorem aQp {c:Code} {K:dU Prop} {fr:Fr} {st:St} (mask:List Bool) (accs:List (Nat×Nat)) (n1:Nat) (I:Nat->Fr->St->Prop) (h0: ∃st',St.norm st.nx n1 accs fr st=some st'/\ ∃m,I m (fr.norm st.nx mask accs) st')
 (h: ∀m fr1 st1,I m fr1 st1->fG P G (OZ F P G W rng d) c (Fg K st.nx n1 mask accs m I) fr1 st1):(OZ F P G W rng (d+1)).loop c K fr st:= .inl (.inl ⟨mask,accs,n1,I,h0,h⟩)
theorem lM {σ:Type} {c:Code} {K:dU Prop} {fr:Fr} {st:St} (mask:List Bool) (accs:List (Nat×Nat)) (n1:Nat) (n:Nat) (f:Nat->σ->Fr) (s:Nat->σ->St) (Q:Nat->σ->Prop) (x0:σ) (hq:Q 0 x0) (hs:St.norm st.nx n1 accs fr st=some (s 0 x0)) (hf:fr.norm st.nx mask accs=f 0 x0)
  (h: ∀i x,i<=n->Q i x->fG P G (OZ F P G W rng d) c (Fg K st.nx n1 mask accs (n - i) (fun m fr st=> ∃i x,i<=n/\m=n - i/\Q i x/\fr=f i x/\st=s i x)) (f i x) (s i x)):(OZ F P G W rng (d+1)).loop c K fr st:=by
 refine aQp mask accs n1 (fun m fr st=> ∃i x,i<=n/\m=n - i/\Q i x/\fr=f i x/\st=s i x) ⟨_,hs,n,0,x0,by omega,by omega,hq,hf,rfl⟩ ?_
 rintro m fr1 st1 ⟨i,x,hi,rfl,hQ,rfl,rfl⟩
 exact h i x hi hQ
theorem kH {σ:Type} {n n1 i:Nat} {k:Nat} {mask:List Bool} {accs:List (Nat×Nat)} {f:Nat->σ->Fr} {s:Nat->σ->St} {Q:Nat->σ->Prop} {fr:Fr} {st:St} (x:σ) (hi:i<n) (hQ:Q (i+1) x) (hs:St.norm k n1 accs fr st=some (s (i+1) x)) (hf:fr.norm k mask accs=f (i+1) x):
  ∃st'',St.norm k n1 accs fr st=some st''/\ ∃m',m'<n - i/\ ∃j y,j<=n/\m'=n - j/\Q j y/\fr.norm k mask accs=f j y/\st''=s j y:=
 ⟨_,hs,n - (i+1),by omega,i+1,x,by omega,rfl,hQ,hf,rfl⟩
theorem Cm {c:Code} {K:dU Prop} {fr:Fr} {st:St} (n:Nat) (h:Aa P G (OZ F P G W rng d) c K n fr st):(OZ F P G W rng (d+1)).loop c K fr st:= .inl (.inr ⟨n,h⟩)
end
theorem aS {F:Fence} {W:World} {rng:Bool} {d:Nat} (f:FuncId) {args:List AV} {K:AV->St->Prop} {st:St} (h:(OZ F P G W rng d).call f args K st):(OZ F P G W rng d).call f args K st:=h
theorem aO {F:Fence} {W:World} {rng:Bool} {d:Nat} {ops:Array Oper} {K:Fr->St->Prop} {s:List AV} {marks:List Nat} {h:List (Nat×aI)} {nx:Nat} (g:(OZ F P G W rng (d+1)).draw ops K ⟨s,marks⟩ ⟨h,nx⟩):(OZ F P G W rng (d+1)).draw ops K ⟨s,marks⟩ ⟨h,nx⟩:=g
section
variable {F:Fence} {W:World} {rng:Bool} {d:Nat}
theorem aQq {c:Code} {K:dU Prop} {fr:Fr} {st:St} (mask:List Bool) (n1:Nat) (I:Nat->Fr->St->Prop) (h0: ∃f g st',dH st.nx n1 f g fr.marks/\aG f st.h st'.h/\st'.nx=n1/\ ∃m,I m (fr.renF f mask) st')
 (h: ∀m fr1 st1,I m fr1 st1->fG P G (OZ F P G W rng d) c (Vu K st.nx n1 mask m I) fr1 st1):(OZ F P G W rng (d+1)).loop c K fr st:= .inr ⟨mask,n1,I,h0,h⟩
def forI {σ:Type} (n:Nat) (f:Nat->σ->Fr) (s:Nat->σ->St) (Q:Nat->σ->Prop):Nat->Fr->St->Prop:=fun m fr st=> ∃i x,i<=n/\m=n - i/\Q i x/\fr=f i x/\st=s i x
theorem jV {σ:Type} {c:Code} {K:dU Prop} {fr:Fr} {st:St} (mask:List Bool) (n1:Nat) (n:Nat) (f:Nat->σ->Fr) (s:Nat->σ->St) (Q:Nat->σ->Prop)
  (h0: ∃x0,Q 0 x0/\ ∃r g,dH st.nx n1 r g fr.marks/\aG r st.h (s 0 x0).h/\(s 0 x0).nx=n1/\fr.renF r mask=f 0 x0)
  (h: ∀i x,i<=n->Q i x->fG P G (OZ F P G W rng d) c (Vu K st.nx n1 mask (n - i) (forI n f s Q)) (f i x) (s i x)):(OZ F P G W rng (d+1)).loop c K fr st:=by
 obtain⟨x0,hq,r,g,h1,h2,h3,h4⟩:=h0
 refine aQq mask n1 (forI n f s Q) ⟨r,g,s 0 x0,h1,h2,h3,n,0,x0,by omega,by omega,hq,h4,rfl⟩ ?_
 rintro m fr1 st1 ⟨i,x,hi,rfl,hQ,rfl,rfl⟩
 exact h i x hi hQ
theorem dN {σ:Type} {K:dU Prop} {n n1:Nat} {k:Nat} {mask:List Bool} {f:Nat->σ->Fr} {s:Nat->σ->St} {Q:Nat->σ->Prop} {m:Nat} {fr:Fr} {st:St} (i:Nat) (x:σ) (hi:i<n) (hm:m=n - i) (hQ:Q (i+1) x) (r g:Nat->Option Nat) (h1:dH k n1 r g fr.marks) (h2:aG r st.h (s (i+1) x).h) (h3:(s (i+1) x).nx=n1) (h4:fr.renF r mask=f (i+1) x):
  Vu K k n1 mask m (forI n f s Q) .normal fr st:=by
 subst hm
 exact⟨r,g,s (i+1) x,h1,h2,h3,n - (i+1),by omega,i+1,x,by omega,rfl,hQ,h4,rfl⟩
theorem Inv.pad {W w:World} {M:Mem} {hp:Hp} {al:Nat->Prop} (inv:Inv G M al hp W w) {key b z m:Nat} {cs:List AV} (hk:hp key=some (.cells cs)) (hT:M.T key=some (b,0,z)) (hm:m<=z):Inv G M al (dD hp key (some (.cells (cs++List.replicate (m - cs.length) .ud)))) W w:=by
 refine⟨inv.imm,inv.far,inv.os,inv.tape,inv.out,inv.fresh,fun k blk hb=>?_,fun k1 k2 b1 b2 q h1 h2 h3 h4=>?_,inv.glob,fun _ _ _=>trivial⟩
 ·simp only[dD] at hb
  split at hb
  ·rename_i e
   subst e
   simp only[Option.some.injEq] at hb;subst hb
   obtain⟨q,ob,g1,g2,g3,g4,g5⟩:=inv.live _ _ hk
   refine⟨q,ob,g1,g2,?_,g4,g5⟩
   cases ob<;>simp only[dC] at g3 ⊢
   rename_i c e fr
   obtain⟨r1,r2,r3,b1,z1,r4,r5⟩:=g3
   rw[hT] at r4;cases r4
   refine⟨r1,by simp;omega,fun i hi hi'=>?_,b,z,hT,r5⟩
   by_cases h:i<cs.length
   ·rw[List.getElem_append_left h];exact r3 i h hi'
   ·rw[List.getElem_append_right (by omega),List.getElem_replicate];exact .ud
  ·exact inv.live k blk hb
 ·have old: ∀k blk q,dD hp key (some (.cells (cs++List.replicate (m - cs.length) .ud))) k=some blk->M.blockOf k blk=some q-> ∃blk',hp k=some blk'/\M.blockOf k blk'=some q:=by
   intro k blk q g1 g2
   simp only[dD] at g1
   split at g1
   ·rename_i e
    subst e
    cases g1
    exact⟨_,hk,g2⟩
   ·exact⟨_,g1,g2⟩
  obtain⟨c1,u1,u2⟩:=old _ _ _ h1 h3
  obtain⟨c2,v1,v2⟩:=old _ _ _ h2 h4
  exact inv.inj k1 k2 c1 c2 q u1 v1 u2 v2
theorem Inv.trim {W w:World} {M:Mem} {hp hp':Hp} {al:Nat->Prop} (inv:Inv G M al hp W w) (h: ∀k b',hp' k=some b'-> ∃b,hp k=some b/\(b'=b\/ ∃cs cs',b= .cells (cs++cs')/\b'= .cells cs)):Inv G M al hp' W w:=by
 have ht: ∀ {b b':aI},(b'=b\/ ∃cs cs',b= .cells (cs++cs')/\b'= .cells cs)->b'.isTok=b.isTok:=by
  rintro b b' (rfl|⟨cs,cs',rfl,rfl⟩)<;>rfl
 have hbo: ∀ {k b b'},(b'=b\/ ∃cs cs',b= .cells (cs++cs')/\b'= .cells cs)->M.blockOf k b'=M.blockOf k b:=by
  intro k b b' h
  simp only[Mem.blockOf,ht h]
 refine⟨inv.imm,inv.far,inv.os,inv.tape,inv.out,inv.fresh,fun k blk hb=>?_,fun k1 k2 b1 b2 q h1 h2 h3 h4=>?_,inv.glob,fun _ _ _=>trivial⟩
 ·obtain⟨b,h1,h2⟩:=h k blk hb
  obtain⟨q,ob,g1,g2,g3,g4,g5⟩:=inv.live _ _ h1
  refine⟨q,ob,by rw[hbo h2];exact g1,g2,?_,g4,fun h=>g5 (by rw[<-ht h2];exact h)⟩
  rcases h2 with rfl|⟨cs,cs',rfl,rfl⟩
  ·exact g3
  ·cases ob<;>simp only[dC] at g3 ⊢
   obtain⟨r1,r2,r3,r4⟩:=g3
   refine⟨r1,by simp at r2;omega,fun i hi hi'=>?_,r4⟩
   have:=r3 i (by simp;omega) hi'
   rwa [List.getElem_append_left hi] at this
 ·obtain⟨c1,u1,u2⟩:=h _ _ h1
  obtain⟨c2,v1,v2⟩:=h _ _ h2
  exact inv.inj k1 k2 c1 c2 q u1 v1 (by rw[<-hbo u2];exact h3) (by rw[<-hbo v2];exact h4)
def Less (st st':St):Prop:=st.nx=st'.nx/\ ∀k b',st'.hp k=some b'-> ∃b,st.hp k=some b/\(b'=b\/ ∃cs cs',b= .cells (cs++cs')/\b'= .cells cs)
def AV.unc:AV->AV
 | .mcap key off n c k=> .msl key off n k
 |x=>x
theorem aQ.unc {I:jZ} {L:Lo} {T:To} {a:AV} {v:Value} (h:aQ I L T a v):aQ I L T a.unc v:=by
 by_cases hg: ∃key off n c k,a= .mcap key off n c k
 ·obtain⟨key,off,n,c,k,rfl⟩:=hg
  cases h with
  |mcap hL hT hz hc=>exact .msl hL hT hz hc
 ·have:a.unc=a:=by cases a<;>first|rfl|exact absurd ⟨_,_,_,_,_,rfl⟩ hg
  rw[this];exact h
end
end Go.Proofs.Pv
