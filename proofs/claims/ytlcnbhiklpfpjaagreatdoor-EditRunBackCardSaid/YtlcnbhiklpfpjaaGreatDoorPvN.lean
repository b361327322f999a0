/-
The abstract machine, part N: what an operation looks at; regions that draw their order of evaluation.
Conditions: none but those that each statement names.
-/
import Derived.Test.YtlcnbhiklpfpjaaGreatDoorPvK
set_option linter.unusedVariables false
set_option linter.unusedSimpArgs false
set_option maxRecDepth 100000
set_option maxHeartbeats 16000000
namespace Go.Proofs.Pv
open Go
variable {P:Program} {G:Nat->Option (List AV)}
def AV.keysOf:AV->List Nat
 | .ptr k _| .msl k _ _ _| .mcap k _ _ _ _| .map k| .sl _ _ (.tok k)=>[k]
 |_=>[]
def lZ (P:Program) (G:Nat->Option (List AV)) (s:List AV) (o:Oper):List Nat:=
 match o.op with
 | .load _ a=>(ev P G s o.type a).keysOf
 | .store _ a _=>(ev P G s 0 a).keysOf
 | .call c=>match c.callee with
  | .builtin _=>(evs P G s c.argTypes 0 c.args.toList).flatMap AV.keysOf
  |_=>[]
 | .lookup t x _ _=>(ev P G s t x).keysOf
 | .mapUpdate t m _ _| .insert t m _ _=>(ev P G s t m).keysOf
 | .range t x=>(ev P G s t x).keysOf
 |_=>[]
theorem aDn {s s':List AV} {ts:Array TypeId}: ∀(xs:List Operand) (i:Nat),(∀x∈xs,∀ty,ev P G s ty x=ev P G s' ty x)->evs P G s ts i xs=evs P G s' ts i xs
 |[],_,_=>rfl
 |x::xs,i,h=>by
  simp only[evs]
  rw[h x (by simp),aDn xs (i+1) fun y hy=>h y (by simp [hy])]
theorem aHw {g g':Hp} {t:TypeId} {a:AV} (h: ∀k∈a.keysOf,g k=g' k):Jv P g t a=Jv P g' t a:=by
 unfold Jv;cases sz P t with
 |none=>rfl
 |some n=>cases a<;>first|rfl|(have:=h _ (List.mem_singleton.2 rfl);simp only[this])
theorem aGf {g g':Hp} {t:TypeId} {a v:AV} (h: ∀k∈a.keysOf,g k=g' k):Af P g t a v=Af P g' t a v:=by
 cases a<;>first|(have:=h _ (List.mem_singleton.2 rfl);simp only[Af,this];done)|(simp only[Af])
theorem aLm {g g':Hp} {t:TypeId} {a:AV} (h: ∀k∈a.keysOf,g k=g' k):Qq P g t a=Qq P g' t a:=by
 by_cases hm: ∃k,a= .map k
 ·obtain⟨k,rfl⟩:=hm
  have:=h k (List.mem_singleton.2 rfl)
  unfold Qq
  cases P.underlying t with
  |none=>rfl
  |some d=>cases d<;>first|rfl|(simp only[this])
 ·unfold Qq
  cases P.underlying t with
  |none=>rfl
  |some d=>cases d<;>cases a<;>first|rfl|exact absurd ⟨_,rfl⟩ hm
theorem aD9 {g g':Hp} {nx:Nat} {t:TypeId} {a x:AV} (h: ∀k∈a.keysOf,g k=g' k):Be P g nx t a x=Be P g' nx t a x:=by
 unfold Be
 cases nN P t with
 |none=>rfl
 |some e=>
  simp only
  cases sz P e<;>cases dZ P e<;>cases a<;>cases x<;>try rfl
  rename_i tk _ _ _
  cases tk<;>try rfl
  have:=h _ (List.mem_singleton.2 rfl)
  simp only[this]
theorem Ic {g g':Hp} {n:Nat} {x:AV} (h: ∀k∈x.keysOf,g k=g' k):cO g n x=cO g' n x:=by
 cases x<;>first|rfl|(have:=h _ (List.mem_singleton.2 rfl);simp only[cO,this])
theorem aHx {g g':Hp} {nx:Nat} {t:TypeId} {a x:AV} (h: ∀k∈a.keysOf,g k=g' k) (hx: ∀k∈x.keysOf,g k=g' k):gI P g nx t a x=gI P g' nx t a x:=by
 unfold gI
 cases nN P t with
 |none=>rfl
 |some e=>
  simp only
  cases sz P e<;>cases dZ P e<;>try rfl
  simp only
  rw[Ic hx]
  cases a<;>try rfl
  have:=h _ (List.mem_singleton.2 rfl)
  simp only[this]
theorem aHy {g g':Hp} {t:TypeId} {d x:AV} (h: ∀k∈d.keysOf,g k=g' k) (hx: ∀k∈x.keysOf,g k=g' k):pF P g t d x=pF P g' t d x:=by
 unfold pF
 cases nN P t with
 |none=>rfl
 | some e=>
  cases d<;>try rfl
  all_goals
   have:=h _ (List.mem_singleton.2 rfl)
   simp only[this]
   cases sz P e with
   |none=>rfl
   |some n=>simp only[Ic hx]
theorem aHz {g g':Hp} {nx:Nat} {t:TypeId} {a x:AV} (h: ∀k∈a.keysOf,g k=g' k) (hx: ∀k∈x.keysOf,g k=g' k):kE P g nx t a x=kE P g' nx t a x:=by
 unfold kE
 cases nN P t with
 |none=>rfl
 |some e=>
  cases a<;>try rfl
  have:=h _ (List.mem_singleton.2 rfl)
  simp only[this,Ic hx]
theorem aH0 {g g':Hp} {nx:Nat} {t tn:TypeId} {a x:AV} (h: ∀k∈a.keysOf,g k=g' k):Ag P g nx t tn a x=Ag P g' nx t tn a x:=by
 unfold Ag
 cases nN P t with
 |none=>rfl
 |some e=>
  cases a<;>try rfl
  have:=h _ (List.mem_singleton.2 rfl)
  cases x<;>try rfl
  simp only[this]
theorem aGg {g g':Hp} {t:TypeId} {x:AV} (h: ∀k∈x.keysOf,g k=g' k):mX P g t x=mX P g' t x:=by
 unfold mX
 cases nN P t with
 |none=>rfl
 | some e=>
  cases x<;>try rfl
  ·rename_i rows _
   cases rows<;>rfl
  ·have:=h _ (List.mem_singleton.2 rfl)
   simp only[this]
theorem aB5 {g g':Hp} {nx:Nat} {b:Builtin} {ts:Array TypeId} {args:List AV} (h: ∀k∈args.flatMap AV.keysOf,g k=g' k):nD P g nx b ts args=nD P g' nx b ts args:=by
 unfold nD
 split<;>try rfl
 ·rw[aLm];intro k hk;exact h k (by simp [hk])
 ·rw[aD9,aHx,aHz,aH0]
  ·intro k hk;exact h k (by simp [hk])
  ·intro k hk;exact h k (by simp [hk])
  ·intro k hk;exact h k (by simp [hk])
  ·intro k hk;exact h k (by simp [hk])
  ·intro k hk;exact h k (by simp [hk])
  ·intro k hk;exact h k (by simp [hk])
 ·exact aHy (fun k hk=>h k (by simp [hk])) (fun k hk=>h k (by simp [hk]))
 ·exact aGg (fun k hk=>h k (by simp [hk]))
theorem Ie {s s':List AV} {f:Nat->TypeId}: ∀(ps:List (Nat×Operand)),(∀x∈ps.map (·.2),∀ty,ev P G s ty x=ev P G s' ty x)->
  ps.map (fun p=>(p.1,ev P G s (f p.1) p.2))=ps.map (fun p=>(p.1,ev P G s' (f p.1) p.2))
 |[],_=>rfl
 |p::ps,h=>by
  simp only[List.map_cons]
  rw[h p.2 (by simp),Ie ps fun x hx=>h x (by simp [hx])]
theorem Ig {s s':List AV} {ty:TypeId}: ∀(xs:List Operand),(∀x∈xs,∀ty,ev P G s ty x=ev P G s' ty x)->xs.map (ev P G s ty)=xs.map (ev P G s' ty)
 |[],_=>rfl
 |x::xs,h=>by
  simp only[List.map_cons]
  rw[h x (by simp),Ig xs fun y hy=>h y (by simp [hy])]
theorem Us {s s':List AV} {x:Option Operand} (h: ∀y∈x.toArray,∀ty,ev P G s ty y=ev P G s' ty y):evo P G s x=evo P G s' x:=by
 cases x with
 |none=>rfl
 |some y=>simp only[evo,Option.map_some];rw[h y (by simp)]
theorem aLn {s s':List AV} {g g':Hp} {nx:Nat} {o:Oper} (hs: ∀x∈o.op.operands,∀ty,ev P G s ty x=ev P G s' ty x) (hg: ∀k∈lZ P G s o,g k=g' k):
  Ah P G s g nx o=Ah P G s' g' nx o/\lZ P G s o=lZ P G s' o:=by
 obtain⟨dst,op,ty,pos,after,guard⟩:=o
 cases op<;>simp only[Ah,aEm,aAx,oBox,aAy,wJ,oNil,aEn,aEo,Qr,Qs,lZ,Op.operands] at hs hg ⊢ <;>try trivial
 case move x=>rw[hs x (by simp)];trivial
 case assign x=>rw[hs x (by simp)];trivial
 case pick c a b=>rw[hs c (by simp),hs a (by simp),hs b (by simp)];trivial
 case box e x=>rw[hs x (by simp)];trivial
 case build t ps=>rw[Ie ps.toList fun x hx=>hs x (by simpa using hx)];trivial
 case buildSlice t l ps=>rw[Ie (f:=fun _=>dQ P t 0) ps.toList fun x hx=>hs x (by simpa using hx)];trivial
 case load t a=>rw[aHw hg,hs a (by simp)];trivial
 case store t a v=>rw[aGf hg,hs a (by simp),hs v (by simp)];trivial
 case nilCheck x=>rw[hs x (by simp)];trivial
 case binOp a b x y z=>rw[hs x (by simp),hs y (by simp)];trivial
 case unOp a b x=>rw[hs x (by simp)];trivial
 case convert a b x=>rw[hs x (by simp)];trivial
 case makeFunc t first cap=>
  cases t<;>try trivial
  simp only
  rw[Ig first.toList fun x hx=>hs x (by simp at hx ⊢;exact .inl hx),Ig cap.toList fun x hx=>hs x (by simp at hx ⊢;exact .inr hx)];trivial
 case slice t x l h m=>
  rw[hs x (by simp),Us (x:=l) fun y hy=>hs y (by simp at hy ⊢;simp [hy]),Us (x:=h) fun y hy=>hs y (by simp at hy ⊢;simp [hy]),Us (x:=m) fun y hy=>hs y (by simp at hy ⊢;simp [hy])];trivial
 case fieldAddr t x f=>rw[hs x (by simp)];trivial
 case field t x f=>rw[hs x (by simp)];trivial
 case indexAddr t x i=>rw[hs x (by simp),hs i (by simp)];trivial
 case index t x i=>rw[hs x (by simp),hs i (by simp)];trivial
 case extract x i=>rw[hs x (by simp)];trivial
 case lookup t x i ok=>rw[hs x (by simp)];trivial
 case mapUpdate t m k v=>rw[hs m (by simp)];trivial
 case insert t m k v=>rw[hs m (by simp)];trivial
 case range t x=>rw[hs x (by simp)];trivial
 case call c=>
  obtain⟨callee,args,ats⟩:=c
  have ha:evs P G s ats 0 args.toList=evs P G s' ats 0 args.toList:=aDn _ _ fun x hx=>hs x (by simp [Call.operands];exact .inr (by simpa using hx))
  cases callee<;>simp only at hs hg ⊢
  ·rename_i f
   rw[hs f (by simp [Call.operands]),ha];trivial
  ·trivial
  ·rw[aB5 hg,ha];trivial
theorem aLo {g g':Hp} {a:AV} (h: ∀k∈a.keysOf,g k=g' k):yV g a=yV g' a:=by
 cases a<;>first|rfl|(simp only[yV];rw[h _ (List.mem_singleton.2 rfl)])
theorem aLp {s s':List AV} {g g':Hp} {nx:Nat} {o:Oper} (hs: ∀x∈o.op.operands,∀ty,ev P G s ty x=ev P G s' ty x) (hg: ∀k∈lZ P G s o,g k=g' k):
  nS P G s g nx o=nS P G s' g' nx o/\Ak P G s nx o=Ak P G s' nx o:=by
 obtain⟨dst,op,ty,pos,after,guard⟩:=o
 cases op<;>simp only[nS,Ak,lZ,Op.operands] at hs hg ⊢ <;>try trivial
 case makeMap t r=>
  cases r with
  |none=>trivial
  |some r=>simp only;rw[hs r (by simp)];trivial
 case lookup t x i ok=>
  rw[aLo hg]
  simp only[hs x (by simp),hs i (by simp)];trivial
 case mapUpdate t m k v=>
  have e1:=hs m (by simp) t
  simp only[hs k (by simp),hs v (by simp)]
  refine⟨?_,trivial⟩
  rw[e1] at hg ⊢
  cases P.underlying t with
  |none=>rfl
  |some d=>
   generalize ev P G s' t m=y at hg ⊢
   cases d<;>first|rfl|(cases y<;>first|rfl|(have h1:=hg _ (List.mem_singleton.2 rfl);simp only[h1]))
 case insert t m k v=>
  have e1:=hs m (by simp) t
  simp only[hs k (by simp),hs v (by simp)]
  refine⟨?_,trivial⟩
  rw[e1] at hg ⊢
  cases P.underlying t with
  |none=>rfl
  |some d=>
   generalize ev P G s' t m=y at hg ⊢
   cases d<;>first|rfl|(cases y<;>first|rfl|(have h1:=hg _ (List.mem_singleton.2 rfl);simp only[h1]))
 case range t x=>
  have e1:=hs x (by simp) t
  refine⟨?_,trivial⟩
  rw[e1] at hg ⊢
  cases P.underlying t with
  |none=>rfl
  |some d=>
   generalize ev P G s' t x=y at hg ⊢
   cases d<;>first|rfl|(cases y<;>first|rfl|(have h1:=hg _ (List.mem_singleton.2 rfl);simp only[h1]))
 case binOp op t x y z=>refine⟨trivial,?_⟩;rw[hs x (by simp)]
 case makeSlice t l c=>refine⟨trivial,?_⟩;simp only[hs l (by simp),hs c (by simp)]
theorem zK {s s':List AV} {g g':Hp} {nx:Nat} {o:Oper} (hs: ∀x∈o.op.operands,∀ty,ev P G s ty x=ev P G s' ty x) (hg: ∀k∈lZ P G s o,g k=g' k):
  jM P G s g nx o=jM P G s' g' nx o/\lZ P G s o=lZ P G s' o:=by
 obtain⟨h1,h2⟩:=aLn (nx:=nx) hs hg
 obtain⟨h3,h4⟩:=aLp (nx:=nx) hs hg
 exact⟨by unfold jM;rw[h1,h3,h4],h2⟩
end Go.Proofs.Pv
namespace Go.Proofs.Pv
open Go
variable {P:Program} {G:Nat->Option (List AV)}
def Pl (P:Program) (G:Nat->Option (List AV)) (f:FuncId) (args:List AV) (r:AV):Prop:=
 PC P G f (args.map AV.plain) (fun v=>v=r)
abbrev DH:=List (Nat×Option aI)
def bY:DH->Nat->Option aI
 |[],_=>none
 |(k',b)::r,k=>if k=k' then b else bY r k
def lJ:DH->Nat->Option aI->DH
 |[],_,_=>[]
 |(k',b')::r,k,b=>if k=k' then(k',b)::r else(k',b')::lJ r k b
def fO:DH->Nat->Bool
 |[],_=>false
 |(k',_)::r,k=>if k=k' then true else fO r k
def iE:DH->List (Nat×Option aI)->DH
 |h,[]=>h
 |h,(k,b)::u=>iE (lJ h k b) u
theorem Jy: ∀(h:DH) (k:Nat) (b:Option aI) (q:Nat),fO (lJ h k b) q=fO h q
 |[],_,_,_=>rfl
 |(k',b')::r,k,b,q=>by
  simp only[lJ]
  split
  ·rfl
  ·simp only[fO,Jy r]
theorem Uw: ∀(u:List (Nat×Option aI)) (h:DH) (q:Nat),fO (iE h u) q=fO h q
 |[],_,_=>rfl
 |(k,b)::u,h,q=>by simp only[iE];rw[Uw u,Jy]
theorem aDt: ∀(h:DH) (k1 k2:Nat) (a b:Option aI),k1≠k2->lJ (lJ h k1 a) k2 b=lJ (lJ h k2 b) k1 a
 |[],_,_,_,_,_=>rfl
 | (k',b')::r,k1,k2,a,b,hne=>by
  by_cases h1:k1=k'
  ·have h2: ¬k2=k':=fun e=>hne (h1.trans e.symm)
   simp [lJ,h1,h2]
  ·by_cases h2:k2=k'
   ·simp [lJ,h1,h2]
   ·simp [lJ,h1,h2,aDt r k1 k2 a b hne]
theorem aDu: ∀(u:List (Nat×Option aI)) (h:DH) (k:Nat) (b:Option aI),(∀x∈u,x.1≠k)->lJ (iE h u) k b=iE (lJ h k b) u
 |[],_,_,_,_=>rfl
 |(q,c)::u,h,k,b,hne=>by
  simp only[iE]
  rw[aDu u _ k b fun x hx=>hne x (by simp [hx]),aDt _ _ _ _ _ (hne (q,c) (by simp))]
theorem aDv: ∀(u u':List (Nat×Option aI)) (h:DH),(∀x∈u,∀y∈u',x.1≠y.1)->iE (iE h u) u'=iE (iE h u') u
 |[],_,_,_=>rfl
 |(k,b)::u,u',h,hne=>by
  simp only[iE]
  rw[aDu u' h k b fun y hy=>(hne (k,b) (by simp) y hy).symm]
  exact aDv u u' _ fun x hx=>hne x (by simp [hx])
theorem Ux: ∀(h:DH) (k q:Nat) (b:Option aI),q≠k->bY (lJ h k b) q=bY h q
 |[],_,_,_,_=>rfl
 |(k',b')::r,k,q,b,hne=>by
  simp only[lJ]
  split
  ·rename_i e;subst e;simp [bY,hne]
  ·simp only[bY,Ux r k q b hne]
theorem xH: ∀(u:List (Nat×Option aI)) (h:DH) (q:Nat),(∀x∈u,x.1≠q)->bY (iE h u) q=bY h q
 |[],_,_,_=>rfl
 |(k,b)::u,h,q,hne=>by
  simp only[iE]
  rw[xH u _ q fun x hx=>hne x (by simp [hx]),Ux _ _ _ _ (hne (k,b) (by simp)).symm]
theorem aDw: ∀(h:DH) (k:Nat) (b:Option aI),fO h k=true->bY (lJ h k b)=dD (bY h) k b
 |[],_,_,h=>by simp [fO] at h
 | (k',b')::r,k,b,h=>by
  funext q
  simp only[lJ]
  split
  ·rename_i e;subst e;simp only[bY,dD];split<;>rfl
  ·rename_i e
   simp only[fO,e,if_false] at h
   simp only[bY,aDw r k b h,dD]
   by_cases h1:q=k'
   ·subst h1
    have: ¬q=k:=fun h=>e h.symm
    simp [this]
   ·simp [h1]
theorem aDx: ∀(u:List (Nat×Option aI)) (h:DH),(∀x∈u,fO h x.1=true)->bY (iE h u)=lQ (bY h) u
 |[],_,_=>rfl
 |(k,b)::u,h,hp=>by
  simp only[iE,lQ]
  rw[aDx u _ fun x hx=>by rw[Jy];exact hp x (by simp [hx]),aDw h k b (hp (k,b) (by simp))]
structure LE where
 p:Nat
 ak:List Nat
 wk:List Nat
 call:Bool
 all:Bool:=false
 al:Bool:=false
 top:Nat:=0
def Ik (a b:List Nat):Bool:=a.all fun x=>!b.contains x
def triv (e:LE):Bool:=e.ak.isEmpty && e.wk.isEmpty && !e.call && !e.all && !e.al
def beside (e e':LE):Bool:=!e.all||(!e'.al && e'.ak.all (fun k=>Nat.blt k e.top) && e'.wk.all (fun k=>Nat.blt k e.top))
def vY (e e':LE):Bool:=Ik e.wk e'.ak && Ik e.wk e'.wk && Ik e.ak e'.wk && !(e.call && e'.call) && beside e e' && beside e' e
def chk (anc:List (List Nat)) (e:LE) (log:List LE):Bool:=log.all fun e'=>(anc.getD e.p []).contains e'.p||vY e e'
theorem Il {a b:List Nat}:Ik a b=true↔ ∀x∈a,x ∉ b:=by simp [Ik]
theorem Uy {a b:List Nat} (h:Ik a b=true):Ik b a=true:=Il.2 fun x hx ha=>Il.1 h x ha hx
theorem aH2 {e e':LE} (h:vY e e'=true):vY e' e=true:=by
 simp only[vY,Bool.and_eq_true] at h ⊢
 refine⟨⟨⟨⟨⟨Uy h.1.1.1.2,Uy h.1.1.1.1.2⟩,Uy h.1.1.1.1.1⟩,?_⟩,h.2⟩,h.1.2⟩
 have h1:=h.1.1.2
 cases h2:e.call<;>cases h3:e'.call<;>simp_all
def gQ (s:List AV) (d:Option Tmp) (v:AV):List AV:=
 match d with
 |some d=>s.set d v
 |none=>s
def xI:Op->Bool
 | .alloc _| .box _ _| .buildSlice _ _ _| .call _| .makeMap _ _| .makeSlice _ _ _| .range _ _=>true
 |_=>false
theorem aUo {s:List AV} {g:Hp} {nx nx':Nat} {o:Oper} (h:xI o.op=false):jM P G s g nx o=jM P G s g nx' o:=by
 obtain⟨dst,op,ty,pos,after,guard⟩:=o
 cases op<;>first|rfl|(simp [xI] at h;done)
def news:Nat->List Oper->List Nat
 |_,[]=>[]
 |p,o::r=>match o.op with
  | .alloc _| .box _ _| .buildSlice _ _ _| .call _| .makeMap _ _| .makeSlice _ _ _| .range _ _=>p::news (p+1) r
  |_=>news (p+1) r
def nG (nx0:Nat) (l:List Nat) (h:List (Nat×aI)):DH:=(l.map fun p=>(nx0+p,none))++h.map fun x=>(x.1,some x.2)
def jA:DH->List (Nat×aI)
 |[]=>[]
 |(k,some b)::r=>(k,b)::jA r
 |(k,none)::r=>hdel (jA r) k
abbrev GC:=Bool->Nat->List AV->St->AV->St->Prop
def tgt (y:Bool) (f:Nat) (args:List AV):kM:=if y then .yield f args else .call f args
def hsel (R:List Nat) (h:DH):DH:=h.filter fun x=>R.contains x.1
def hkeep (R:List Nat) (h:DH):DH:=h.filter fun x=>!R.contains x.1
def Rd (P:Program) (G:Nat->Option (List AV)) (f:FuncId) (args:List AV) (hr:Hp) (v:AV):Prop:=
  ∀ (F:Fence),Free F-> ∀(W:World) (al:Nat->Prop) (hp0:Hp) (M:Mem) (w:World) (vs:Array Value) (nx:Nat),(∀k,al k->k<nx)->(∀k b,hr k=some b->hp0 k=some b)->Inv G M al hp0 W w->bP M.rel args vs.toList->
    (∃fn,P.funcs[f]?=some fn/\fn.body.isSome=true/\fn.name≠ "runtime.NumGoroutine")/\
    ∀n,CallsIn F n P f vs w fun e w'=> ∃M' u,e= .returned u/\M.le M'/\Inv G M' al hp0 W w'/\M'.rel v u
def Bf (P:Program) (G:Nat->Option (List AV)) (gc:GC) (ops:Array Oper) (nx0:Nat) (o:Oper) (p:Nat) (s:List AV) (h:DH) (e:LE) (v:AV) (h':DH) (nx':Nat):Prop:=
 (mW ops s o=some false/\v=uu/\h'=h/\nx'=nx0/\e=⟨p,[],[],false,false,false,0⟩)\/
 (mW ops s o=some true/\ ∃u,(jM P G s (bY h) (nx0+p) o=some (.val v u)\/jM P G s (bY h) (nx0+p) o=some (.skip u)/\v=uu)/\(∀x∈u,fO h x.1=true)/\h'=iE h u/\nx'=nx0/\e=⟨p,lZ P G s o,u.map (·.1),false,false,xI o.op,0⟩)\/
 (mW ops s o=some true/\(∃f args,jM P G s (bY h) (nx0+p) o=some (.call f args)/\Pl P G f args v)/\h'=h/\nx'=nx0/\e=⟨p,lZ P G s o,[],true,false,true,0⟩)\/
 (mW ops s o=some true/\ ∃R,(∃y f args st',jM P G s (bY h) (nx0+p) o=some (tgt y f args)/\gc y f args ⟨jA (hsel R h),nx0+ops.size⟩ v st'/\(∀x∈st'.h,R.contains x.1=true\/nx0+ops.size<=x.1)/\nx0+ops.size<=st'.nx/\
  h'=hkeep R h++nG st'.nx (news 0 ops.toList) st'.h/\nx'=st'.nx)/\e=⟨p,lZ P G s o++R,R,true,true,true,nx0+ops.size⟩)\/
 (mW ops s o=some true/\ ∃R,(∃f args hr,jM P G s (bY h) (nx0+p) o=some (.call f args)/\Rd P G f args hr v/\(∀k b,hr k=some b->k∈R/\bY h k=some b))/\h'=h/\nx'=nx0/\e=⟨p,lZ P G s o++R,[],true,false,true,0⟩)
def sS (P:Program) (G:Nat->Option (List AV)) (gc:GC) (ops:Array Oper) (anc:List (List Nat)) (K:Nat->List AV->DH->Prop):List Nat->List LE->Nat->List AV->DH->Prop
 |[],_,nx,s,h=>K nx s h
 |p::rest,log,nx,s,h=> ∃o e v h' nx',ops[p]?=some o/\Bf P G gc ops nx o p s h e v h' nx'/\chk anc e log=true/\sS P G gc ops anc K rest (e::log) nx' (gQ s o.dst v) h'
section
variable {gc:GC} {ops:Array Oper} {anc:List (List Nat)} {nx0:Nat} {K:Nat->List AV->DH->Prop}
theorem aRu {e:LE}:triv e=true↔e.ak=[]/\e.wk=[]/\e.call=false/\e.all=false/\e.al=false:=by
 simp only[triv,Bool.and_eq_true,List.isEmpty_iff,Bool.not_eq_true',and_assoc]
theorem aH3 {e e':LE} (h:triv e'=true):vY e e'=true:=by
 obtain⟨h1,h2,h3,h4,h5⟩:=aRu.1 h
 simp [vY,beside,Ik,h1,h2,h3,h4,h5]
theorem Xg: ∀(l:List Nat) {log log':List LE} {nx:Nat} {s:List AV} {h:DH},(∀e∈log',e∈log\/triv e=true)->sS P G gc ops anc K l log nx s h->sS P G gc ops anc K l log' nx s h
 |[],_,_,_,_,_,_,hr=>hr
 | p::l,log,log',nx,s,h,hl,⟨o,e,v,h',nx',h1,h2,h3,h5⟩=>by
  refine⟨o,e,v,h',nx',h1,h2,?_,Xg l (fun x hx=>?_) h5⟩
  ·simp only[chk,List.all_eq_true,Bool.or_eq_true] at h3 ⊢
   intro x hx
   rcases hl x hx with hx|hx
   ·exact h3 x hx
   ·exact .inr (aH3 hx)
  ·rcases List.mem_cons.1 hx with rfl|hx
   ·simp
   ·rcases hl x hx with hx|hx
    ·exact .inl (List.mem_cons_of_mem _ hx)
    ·exact .inr hx
theorem aA1 (l:List Nat) {log log':List LE} {nx:Nat} {s:List AV} {h:DH} (hl: ∀e∈log',e∈log) (hr:sS P G gc ops anc K l log nx s h):sS P G gc ops anc K l log' nx s h:=
 Xg l (fun e he=> .inl (hl e he)) hr
theorem aUp {s:List AV} {d:Option Tmp} {v:AV} {ty:TypeId} {x:Operand} (h: ∀t,d=some t->x≠ .tmp t):ev P G (gQ s d v) ty x=ev P G s ty x:=by
 cases d with
 |none=>rfl
 | some d=>
  cases x with
  |tmp t=>
   have:d≠t:=fun e=>h d rfl (by rw[e])
   simp only[ev,gQ,List.getD_eq_getElem?_getD]
   rw[List.getElem?_set_ne this]
  |_=>rfl
theorem aGq {s:List AV} {d:Option Tmp} {v:AV} {o:Oper} (h: ∀t,d=some t->t ∉ o.looksAt ops):mW ops (gQ s d v) o=mW ops s o:=by
 cases d with
 |none=>rfl
 | some d=>
  unfold mW
  cases hg:o.guard with
  |none=>rfl
  | some g=>
   obtain⟨j,want⟩:=g
   simp only
   cases hd:(ops[j]?).bind (·.dst) with
   |none=>rfl
   |some t=>
    have:d≠t:=fun e=>h d rfl (by subst e;simp [Oper.looksAt,hg,hd])
    simp only[gQ]
    rw[List.getElem?_set_ne this]
theorem Jz {s:List AV} {h h':DH} {nx':Nat} {o:Oper} {p:Nat} {e:LE} {v:AV} {d:Option Tmp} {x:AV} (hd: ∀t,d=some t->t ∉ o.looksAt ops):
  Bf P G gc ops nx0 o p s h e v h' nx'↔Bf P G gc ops nx0 o p (gQ s d x) h e v h' nx':=by
 have hs: ∀y∈o.op.operands,∀ty,ev P G (gQ s d x) ty y=ev P G s ty y:=fun y hy ty=>aUp fun t ht e=>hd t ht (by
  subst e
  exact List.mem_append_left _ (List.mem_filterMap.2 ⟨.tmp t,by simpa using hy,rfl⟩))
 obtain⟨h1,h2⟩:=zK (P:=P) (G:=G) (s:=gQ s d x) (s':=s) (g:=bY h) (g':=bY h) (nx:=nx0+p) hs (fun _ _=>rfl)
 have hw:=aGq (ops:=ops) (s:=s) (v:=x) hd
 unfold Bf
 rw[hw,h1,h2]
theorem aGr {s:List AV} {h h':DH} {nx':Nat} {o:Oper} {p:Nat} {e:LE} {v:AV} (hd:Bf P G gc ops nx0 o p s h e v h' nx') (ha:e.all=false):
    ∃ u,h'=iE h u/\nx'=nx0/\(∀x∈u,x.1∈e.wk)/\(∀x∈u,fO h x.1=true)/\
      ∀h2,(∀k∈e.ak,bY h k=bY h2 k)->(∀x∈u,fO h2 x.1=true)->Bf P G gc ops nx0 o p s h2 e v (iE h2 u) nx0/\(e.al=false-> ∀m,Bf P G gc ops m o p s h2 e v (iE h2 u) m):=by
  rcases hd with⟨h1,h2,h3,h4,h5⟩|⟨h1,u,h2,h3,h4,h5,h6⟩|⟨h1,h2,h3,h4,h5⟩|⟨_,_,_,h3⟩|⟨h1,R,⟨f,args,hr,g1,g2,g3⟩,h3,h4,h5⟩
  · exact⟨[],h3,h4,by simp,by simp,fun g _ _=>⟨.inl ⟨h1,h2,rfl,rfl,h5⟩,fun _ m=> .inl ⟨h1,h2,rfl,rfl,h5⟩⟩⟩
  · subst h6
    refine⟨u,h4,h5,fun x hx=>List.mem_map.2 ⟨x,hx,rfl⟩,h3,fun g hk hg=>?_⟩
    have e1:=(zK (P:=P) (G:=G) (s:=s) (s':=s) (g:=bY h) (g':=bY g) (nx:=nx0+p) (o:=o) (fun _ _ _=>rfl) hk).1
    rw[e1] at h2
    refine⟨.inr (.inl ⟨h1,u,h2,hg,rfl,rfl,rfl⟩),fun hal m=> .inr (.inl ⟨h1,u,?_,hg,rfl,rfl,rfl⟩)⟩
    rw[aUo (nx':=nx0+p) hal];exact h2
  · subst h5
    refine⟨[],h3,h4,by simp,by simp,fun g hk hg=>⟨.inr (.inr (.inl ⟨h1,?_,rfl,rfl,rfl⟩)),fun hal=>by cases hal⟩⟩
    rw[<-(zK (P:=P) (G:=G) (s:=s) (s':=s) (g:=bY h) (g':=bY g) (nx:=nx0+p) (o:=o) (fun _ _ _=>rfl) hk).1]
    exact h2
  · subst h3;cases ha
  · subst h5
    refine⟨[],h3,h4,by simp,by simp,fun g hk hg=>⟨.inr (.inr (.inr (.inr ⟨h1,R,⟨f,args,hr,?_,g2,fun k b hb=>?_⟩,rfl,rfl,rfl⟩))),fun hal=>by cases hal⟩⟩
    · rw[<-(zK (P:=P) (G:=G) (s:=s) (s':=s) (g:=bY h) (g':=bY g) (nx:=nx0+p) (o:=o) (fun _ _ _=>rfl) (fun k hm=>hk k (List.mem_append_left _ hm))).1]
      exact g1
    · obtain⟨q1,q2⟩:=g3 k b hb
      exact⟨q1,by rw[<-hk k (List.mem_append_right _ q1)];exact q2⟩
theorem zL {R:List Nat}: ∀(h:DH) (k:Nat),R.contains k=false->fO (hkeep R h) k=fO h k
 |[],_,_=>rfl
 | (k',b)::r,k,hk=>by
  simp only[hkeep,List.filter_cons]
  have ih:=zL r k hk
  by_cases h:R.contains k'=true
  ·have hne: ¬k=k':=fun e=>by subst e;rw[hk] at h;cases h
   simp only[h,Bool.not_true,Bool.false_eq_true,if_false,fO,hne]
   exact ih
  ·have h':R.contains k'=false:=by simpa using h
   simp only[h',Bool.not_false,if_true,fO]
   split
   ·rfl
   ·exact ih
theorem Uz {R:List Nat}: ∀(h:DH) (k:Nat),R.contains k=false->bY (hkeep R h) k=bY h k
 |[],_,_=>rfl
 | (k',b)::r,k,hk=>by
  simp only[hkeep,List.filter_cons]
  have ih:=Uz r k hk
  by_cases h:R.contains k'=true
  ·have hne: ¬k=k':=fun e=>by subst e;rw[hk] at h;cases h
   simp only[h,Bool.not_true,Bool.false_eq_true,if_false,bY,hne]
   exact ih
  ·have h':R.contains k'=false:=by simpa using h
   simp only[h',Bool.not_false,if_true,bY]
   split
   ·rfl
   ·exact ih
theorem Io: ∀(h x:DH) (k:Nat),bY (h++x) k=if fO h k then bY h k else bY x k
 |[],_,_=>rfl
 |(k',b)::r,x,k=>by
  simp only[List.cons_append,bY,fO]
  by_cases e:k=k'
  ·simp [e]
  ·simp only[e,if_false];exact Io r x k
theorem yX: ∀(h x:DH) (k:Nat),fO (h++x) k=(fO h k||fO x k)
 |[],_,_=>rfl
 |(k',b)::r,x,k=>by
  simp only[List.cons_append,fO]
  by_cases e:k=k'
  ·simp [e]
  ·simp only[e,if_false];exact yX r x k
theorem Vb: ∀(h:DH) (k:Nat),fO h k=false->bY h k=none
 |[],_,_=>rfl
 |(k',b)::r,k,h=>by
  simp only[fO] at h
  simp only[bY]
  split at h
  ·cases h
  ·rename_i e;rw[if_neg e];exact Vb r k h
theorem aGs: ∀(h x:DH) (k:Nat) (b:Option aI),fO h k=true->lJ (h++x) k b=lJ h k b++x
 |[],_,_,_,h=>by simp [fO] at h
 | (k',b')::r,x,k,b,h=>by
  simp only[List.cons_append,lJ]
  by_cases e:k=k'
  ·simp [e]
  ·simp only[fO,e,if_false] at h
   simp only[e,if_false,List.cons_append,aGs r x k b h]
theorem aGt {R:List Nat}: ∀(h:DH) (k:Nat) (b:Option aI),R.contains k=false->hsel R (lJ h k b)=hsel R h/\hkeep R (lJ h k b)=lJ (hkeep R h) k b
 |[],_,_,_=>⟨rfl,rfl⟩
 | (k',b')::r,k,b,hk=>by
  obtain⟨i1,i2⟩:=aGt r k b hk
  by_cases e:k=k'
  ·subst e
   have hk':k ∉ R:=by simpa using hk
   simp [lJ,hsel,hkeep,List.filter_cons,hk']
  ·simp only[lJ,e,if_false]
   simp only[hsel,hkeep,List.filter_cons] at i1 i2 ⊢
   by_cases h:R.contains k'=true
   ·simp only[h,if_true,Bool.not_true,Bool.false_eq_true,if_false]
    exact⟨by rw[i1],i2⟩
   ·have h':R.contains k'=false:=by simpa using h
    simp only[h',Bool.false_eq_true,if_false,Bool.not_false,if_true,lJ,e]
    exact⟨i1,by rw[i2]⟩
theorem Yp {R:List Nat}: ∀(u:List (Nat×Option aI)) (h:DH),(∀x∈u,R.contains x.1=false)->hsel R (iE h u)=hsel R h/\hkeep R (iE h u)=iE (hkeep R h) u
 |[],_,_=>⟨rfl,rfl⟩
 |(k,b)::u,h,hk=>by
  obtain⟨i1,i2⟩:=aGt (R:=R) h k b (hk (k,b) (by simp))
  obtain⟨j1,j2⟩:=Yp u (lJ h k b) fun x hx=>hk x (by simp [hx])
  simp only[iE]
  exact⟨j1.trans i1,by rw[j2,i2]⟩
theorem Yq: ∀(u:List (Nat×Option aI)) (h x:DH),(∀y∈u,fO h y.1=true)->iE (h++x) u=iE h u++x
 |[],_,_,_=>rfl
 |(k,b)::u,h,x,hk=>by
  simp only[iE]
  rw[aGs h x k b (hk (k,b) (by simp))]
  exact Yq u _ x fun y hy=>by rw[Jy];exact hk y (by simp [hy])
theorem aRv {nx:Nat} {R:List Nat} {top:Nat} {hh:List (Nat×aI)} (h1: ∀x∈hh,R.contains x.1=true\/top<=x.1) (h2:top<=nx) (l:List Nat) {k:Nat} (hk:k<top) (hR:R.contains k=false):fO (nG nx l hh) k=false:=by
 have key: ∀(z:DH),(∀x∈z,x.1≠k)->fO z k=false:=by
  intro z
  induction z with
  |nil=>intro _;rfl
  |cons x z ih=>
   intro hz
   obtain⟨k',b⟩:=x
   simp only[fO]
   rw[if_neg (fun e=>hz (k',b) (by simp) e.symm)]
   exact ih fun y hy=>hz y (by simp [hy])
 refine key _ fun x hx=>?_
 rcases List.mem_append.1 hx with hx|hx
 ·obtain⟨p,_,rfl⟩:=List.mem_map.1 hx
  simp only;omega
 ·obtain⟨y,hy,rfl⟩:=List.mem_map.1 hx
  simp only
  intro e
  rcases h1 y hy with h|h
  ·rw[e,hR] at h;cases h
  ·omega
theorem aPh {o:Oper} {p:Nat} {s:List AV} {h h':DH} {nx':Nat} {e:LE} {v:AV} (hd:Bf P G gc ops nx0 o p s h e v h' nx'):e.p=p:=by
 rcases hd with⟨_,_,_,_,rfl⟩|⟨_,_,_,_,_,_,rfl⟩|⟨_,_,_,_,rfl⟩|⟨_,_,_,rfl⟩|⟨_,_,_,_,_,rfl⟩<;>rfl
theorem Yr {s:List AV} {h h':DH} {nx':Nat} {o:Oper} {p:Nat} {e:LE} {v:AV} (hd:Bf P G gc ops nx0 o p s h e v h' nx') (ha:e.all=true):
  (∀k∈e.wk,k∈e.ak)/\e.call=true/\(∀k,k<e.top->k ∉ e.wk->bY h' k=bY h k/\(fO h' k=true->fO h k=true)/\(fO h k=true->fO h' k=true))/\
   (∀u:List (Nat×Option aI),(∀x∈u,x.1 ∉ e.ak/\fO h x.1=true)->Bf P G gc ops nx0 o p s (iE h u) e v (iE h' u) nx'):=by
 rcases hd with⟨_,_,_,_,h5⟩|⟨_,_,_,_,_,_,h5⟩|⟨_,_,_,_,h5⟩|⟨h1,R,⟨y,f,args,st',g1,g2,g3,g4,g5,g6⟩,h5⟩|⟨_,_,_,_,_,h5⟩
 ·subst h5;cases ha
 ·subst h5;cases ha
 ·subst h5;cases ha
 ·subst h5
  have hcont: ∀k,k ∉ R->R.contains k=false:=fun k hk=>by simpa using hk
  refine⟨fun k hk=>List.mem_append_right _ hk,rfl,fun k hk hR=>?_,fun u hu=>?_⟩
  ·have hX:=aRv g3 g4 (news 0 ops.toList) hk (hcont k hR)
   subst g5
   refine⟨?_,?_,?_⟩
   ·rw[Io,zL h k (hcont k hR),Uz h k (hcont k hR),Vb _ _ hX]
    split
    ·rfl
    ·rename_i hh;exact(Vb _ _ (by simpa using hh)).symm
   ·rw[yX,zL h k (hcont k hR),hX,Bool.or_false];exact id
   ·rw[yX,zL h k (hcont k hR),hX,Bool.or_false];exact id
  ·have huR: ∀x∈u,R.contains x.1=false:=fun x hx=>hcont _ fun hm=>(hu x hx).1 (List.mem_append_right _ hm)
   obtain⟨q1,q2⟩:=Yp u h huR
   refine .inr (.inr (.inr (.inl ⟨h1,R,⟨y,f,args,st',?_,by rw[q1];exact g2,g3,g4,?_,g6⟩,rfl⟩)))
   ·rw[<-(zK (P:=P) (G:=G) (s:=s) (s':=s) (g:=bY h) (g':=bY (iE h u)) (nx:=nx0+p) (o:=o) (fun _ _ _=>rfl) (fun k hk=>(xH u h k fun x hx hxe=>(hu x hx).1 (List.mem_append_left _ (hxe ▸ hk))).symm)).1]
    exact g1
   ·rw[q2,g5]
    exact Yq u _ _ fun y hy=>by rw[zL h _ (huR y hy)];exact(hu y hy).2
 ·subst h5;cases ha
theorem aPi {s:List AV} {d d':Option Tmp} {v v':AV} (h: ∀t,d=some t->d'≠some t):gQ (gQ s d v) d' v'=gQ (gQ s d' v') d v:=by
 cases d<;>cases d'<;>try rfl
 rename_i a b
 simp only[gQ]
 rw[List.set_comm]
 intro e;exact h a rfl (by rw[e])
theorem aLu {p q:Nat} {rest:List Nat} {log:List LE} {nx:Nat} {s:List AV} {h:DH} (hn:(anc.getD q []).contains p=false)
  (hap: ∀o o',ops[p]?=some o->ops[q]?=some o'->o.apart ops o'=true)
  (H:sS P G gc ops anc K (p::q::rest) log nx s h):sS P G gc ops anc K (q::p::rest) log nx s h:=by
 obtain⟨o,e,v,h1,nx1,g1,g2,g3,o',e',v',h2,nx2,k1,k2,k3,k5⟩:=H
 obtain⟨ap1,ap2,ap3⟩:=Oper.apart_spec (hap o o' g1 k1)
 have ep:=aPh g2
 have ep':=aPh k2
 have hc:vY e' e=true:=by
  simp only[chk,List.all_cons,Bool.and_eq_true,Bool.or_eq_true] at k3
  rcases k3.1 with hc|hc
  ·rw[ep',ep,hn] at hc;cases hc
  ·exact hc
 have hc0:=hc
 simp only[vY,beside,Bool.and_eq_true,Il,Bool.or_eq_true,Bool.not_eq_true',List.all_eq_true] at hc
 obtain⟨⟨⟨⟨⟨c1,c2⟩,c3⟩,c4⟩,c5⟩,c6⟩:=hc
 have hlt: ∀ {k t:Nat},Nat.blt k t=true->k<t:=fun {k t} h=>by
  have:k+1<=t:=by simpa [Nat.blt] using h
  omega
 have k2s:=(Jz (P:=P) (G:=G) (gc:=gc) (s:=s) (d:=o.dst) (x:=v) ap1).2 k2
 have hlog:chk anc e' log=true/\chk anc e (e'::log)=true:=by
  simp only[chk,List.all_cons,Bool.and_eq_true,Bool.or_eq_true] at k3 ⊢
  exact⟨k3.2,.inr (aH2 hc0),g3⟩
 have key: ∃ha na,Bf P G gc ops nx o' q s h e' v' ha na/\Bf P G gc ops na o p (gQ s o'.dst v') ha e v h2 nx2:=by
  by_cases he:e.all=true
  ·obtain⟨w1,w2,w3,w4⟩:=Yr g2 he
   have he':e'.all=false:=by
    cases hh:e'.all with
    |false=>rfl
    |true=>
     have:=(Yr k2s hh).2.1
     rw[this,w2] at c4;cases c4
   have c6':(e'.al=false/\ ∀x∈e'.ak,Nat.blt x e.top=true)/\ ∀x∈e'.wk,Nat.blt x e.top=true:=by
    rcases c6 with h|h
    ·rw[he] at h;cases h
    ·exact h
   obtain⟨u',b1,b2,b3,b4,b5⟩:=aGr k2s he'
   subst b1;subst b2
   have hkey: ∀k∈e'.ak,bY h1 k=bY h k:=fun k hk=>(w3 k (hlt (c6'.1.2 k hk)) (fun hw=>c3 k hk hw)).1
   have hhas: ∀x∈u',fO h x.1=true:=fun x hx=>(w3 _ (hlt (c6'.2 _ (b3 x hx))) (fun hw=>c2 _ (b3 x hx) hw)).2.1 (b4 x hx)
   exact⟨iE h u',nx,(b5 h hkey hhas).2 c6'.1.1 nx,(Jz ap3).1 (w4 u' fun x hx=>⟨c1 _ (b3 x hx),hhas x hx⟩)⟩
  ·have he:e.all=false:=by simpa using he
   obtain⟨u,a1,a2,a3,a4,a5⟩:=aGr g2 he
   subst a1;subst a2
   by_cases he':e'.all=true
   ·have c5':(e.al=false/\ ∀x∈e.ak,Nat.blt x e'.top=true)/\ ∀x∈e.wk,Nat.blt x e'.top=true:=by
     rcases c5 with h|h
     ·rw[he'] at h;cases h
     ·exact h
    have hx: ∃h3,Bf P G gc ops nx1 o' q s h e' v' h3 nx2/\h2=iE h3 u:=by
     rcases k2s with⟨_,_,_,_,h5⟩|⟨_,_,_,_,_,_,h5⟩|⟨_,_,_,_,h5⟩|⟨h1,R,⟨y,f,args,st',g1,g2,g3,g4,g5,g6⟩,h5⟩|⟨_,_,_,_,_,h5⟩
     ·subst h5;cases he'
     ·subst h5;cases he'
     ·subst h5;cases he'
     ·subst h5
      have huR: ∀x∈u,R.contains x.1=false:=fun x hx=>by
       have:x.1 ∉ R:=fun hm=>c2 _ hm (a3 x hx)
       simpa using this
      obtain⟨q1,q2⟩:=Yp u h huR
      refine⟨hkeep R h++nG st'.nx (news 0 ops.toList) st'.h,.inr (.inr (.inr (.inl ⟨h1,R,⟨y,f,args,st',?_,by rw[<-q1];exact g2,g3,g4,rfl,g6⟩,rfl⟩))),?_⟩
      ·rw[(zK (P:=P) (G:=G) (s:=s) (s':=s) (g:=bY h) (g':=bY (iE h u)) (nx:=nx1+q) (o:=o') (fun _ _ _=>rfl) (fun k hk=>(xH u h k fun x hx hxe=>c3 k (List.mem_append_left _ hk) (hxe ▸ a3 x hx)).symm)).1]
       exact g1
      ·rw[g5,q2]
       exact(Yq u _ _ fun y hy=>by rw[zL h _ (huR y hy)];exact a4 y hy).symm
     ·subst h5;cases he'
    obtain⟨h3,d1,rfl⟩:=hx
    obtain⟨w1,w2,w3,w4⟩:=Yr d1 he'
    refine⟨h3,nx2,d1,(Jz ap3).1 ?_⟩
    exact(a5 h3 (fun k hk=>((w3 k (hlt (c5'.1.2 k hk)) (fun hw=>c1 k hw hk)).1).symm) (fun x hx=>(w3 _ (hlt (c5'.2 _ (a3 x hx))) (fun hw=>c2 _ hw (a3 x hx))).2.2 (a4 x hx))).2 c5'.1.1 nx2
   ·have he':e'.all=false:=by simpa using he'
    obtain⟨u',b1,b2,b3,b4,b5⟩:=aGr k2s he'
    subst b1;subst b2
    have hu: ∀x∈u,∀y∈u',x.1≠y.1:=fun x hx y hy hxy=>c2 _ (b3 y hy) (hxy ▸ a3 x hx)
    refine⟨iE h u',nx2,(b5 h (fun k hk=>(xH u h k fun x hx hxe=>c3 k hk (hxe ▸ a3 x hx))) (fun x hx=>by have:=b4 x hx;rwa [Uw] at this)).1,(Jz ap3).1 ?_⟩
    rw[aDv u u' h hu]
    exact(a5 (iE h u') (fun k hk=>(xH u' h k fun x hx hxe=>c1 k (hxe ▸ b3 x hx) hk).symm) (fun x hx=>by rw[Uw];exact a4 x hx)).1
 obtain⟨ha,na,d1,d2⟩:=key
 refine⟨o',e',v',ha,na,k1,d1,hlog.1,o,e,v,h2,nx2,g1,d2,hlog.2,?_⟩
 rw[aPi (d:=o'.dst) (d':=o.dst) fun t ht h'=>ap2 t h' ht]
 refine aA1 (log:=e'::e::log) (log':=e::e'::log) rest (fun x hx=>?_) k5
 rcases List.mem_cons.1 hx with rfl|hx
 ·simp
 ·rcases List.mem_cons.1 hx with rfl|hx
  ·simp
  ·simp [hx]
theorem Xh {i:Nat} {l2:List Nat}: ∀(l1:List Nat) {log:List LE} {nx:Nat} {s:List AV} {h:DH},(∀p∈l1,(anc.getD i []).contains p=false/\ ∀o o',ops[p]?=some o->ops[i]?=some o'->o.apart ops o'=true)->
  sS P G gc ops anc K (l1++i::l2) log nx s h->sS P G gc ops anc K (i::(l1++l2)) log nx s h
 |[],_,_,_,_,_,h=>h
 |p::l1,log,nx,s,h,hn,⟨o,e,v,h',nx',h1,h2,h3,h5⟩=>by
  have ih:=Xh l1 (fun q hq=>hn q (by simp [hq])) h5
  exact aLu (hn p (by simp)).1 (hn p (by simp)).2 ⟨o,e,v,h',nx',h1,h2,h3,ih⟩
end
end Go.Proofs.Pv
namespace Go.Proofs.Pv
open Go
variable {P:Program} {G:Nat->Option (List AV)}
def aTy (F:Fence) (P:Program) (G:Nat->Option (List AV)) (W:World) (key:Nat) (args:List AV) (K:AV->St->Prop) (st:St):Prop:=
  ∀ M w vs,Inv G M (· <st.nx) st.hp W w->bP M.rel args vs.toList-> ∀l,M.L key=some l->
    ∃ f tmps assign body,(Instr.yield l vs).run P w= .ok (.round l f tmps assign body) w/\
      ∀n,RoundIn F n P l f tmps assign body w fun e w'=> ∃M' v av st',e= .returned v/\M.le M'/\Inv G M' (· <st'.nx) st'.hp W w'/\M'.rel av v/\K av st'
def GcOk (F:Fence) (P:Program) (G:Nat->Option (List AV)) (W:World) (gc:GC):Prop:=
 ∀y f args st v st',gc y f args st v st'->if y then aTy F P G W f args (fun u su=>u=v/\su=st') st else aP F P G W f args (fun u su=>u=v/\su=st') st
def alD (nx0 N:Nat) (l:List Nat) (k:Nat):Prop:=k<nx0+N/\ ∀p∈l,k≠nx0+p
structure aFp (G:Nat->Option (List AV)) (W:World) (M:Mem) (nx0 N:Nat) (l:List Nat) (s:List AV) (marks:List Nat) (h:DH) (a:Act) (w:World):Prop where
 inv:Inv G M (alD nx0 N l) (bY h) W w
 rs:oL M s a.tmps
 defers:a.defers.length=marks.length/\ ∀(i:Nat) key,marks[i]?=some key-> ∃l,M.L key=some l/\a.defers[i]?=some {target:= .collected l,args:= #[]}
theorem aFp.put {W:World} {M:Mem} {nx0 nx1 N:Nat} {l l':List Nat} {s:List AV} {marks:List Nat} {h h':DH} {a:Act} {w w':World} (sim:aFp G W M nx0 N l s marks h a w) {M':Mem} (hle:M.le M') (inv':Inv G M' (alD nx1 N l') (bY h') W w') (d:Option Tmp) {v:AV} {u:Value} (hv:M'.rel v u):
  aFp G W M' nx1 N l' (gQ s d v) marks h' (a.put d u) w':=by
 have rs:=sim.rs.mono hle
 obtain⟨d1,d2⟩:=sim.defers
 have hd: ∀(i:Nat) key,marks[i]?=some key-> ∃l,M'.L key=some l/\a.defers[i]?=some {target:= .collected l,args:= #[]}:=fun i key h=>by
  obtain⟨l,h1,h2⟩:=d2 i key h;exact⟨l,hle.L _ _ h1,h2⟩
 cases d with
 |none=>exact⟨inv',rs,⟨d1,hd⟩⟩
 |some d=>exact⟨inv',rs.set d hv,⟨d1,hd⟩⟩
def uni (a s:List Nat):List Nat:=a.foldl (fun s x=>if s.contains x then s else x::s) s
def qH:List Oper->List (List Nat)->List (List Nat)
 |[],acc=>acc
 |o::r,acc=>qH r (acc++[o.after.toList.foldl (fun s e=>if Region.binds .any e then uni (e.on::acc.getD e.on []) s else s) []])
theorem aIy: ∀(a s:List Nat) (x:Nat),x∈uni a s->x∈a\/x∈s
 |[],s,x,h=> .inr h
 | y::a,s,x,h=>by
  simp only[uni,List.foldl_cons] at h
  rcases aIy a _ x h with h|h
  ·exact .inl (by simp [h])
  ·split at h
   ·exact .inr h
   ·rcases List.mem_cons.1 h with rfl|h
    ·exact .inl (by simp)
    ·exact .inr h
theorem aIz (acc:List (List Nat)): ∀(es:List Edge) (s:List Nat) (x:Nat),x∈es.foldl (fun s e=>if Region.binds .any e then uni (e.on::acc.getD e.on []) s else s) s->
  x∈s\/ ∃e∈es,Region.binds .any e=true/\(x=e.on\/x∈acc.getD e.on [])
 |[],s,x,h=> .inl h
 | e ::es,s,x,h=>by
  simp only[List.foldl_cons] at h
  rcases aIz acc es _ x h with h|⟨e',h1,h2⟩
  ·split at h
   ·rename_i hb
    rcases aIy _ _ x h with h|h
    ·refine .inr ⟨e,by simp,hb,?_⟩
     rcases List.mem_cons.1 h with h|h
     ·exact .inl h
     ·exact .inr h
    ·exact .inl h
   ·exact .inl h
  ·exact .inr ⟨e',by simp [h1],h2⟩
def aEj (ops:List Oper) (acc:List (List Nat)):Prop:= ∀(i:Nat) (o:Oper),i<acc.length->ops[i]?=some o-> ∀x∈acc.getD i [],∃e∈o.after,Region.binds .any e=true/\(x=e.on\/x∈acc.getD e.on [])
theorem Hr (acc:List (List Nat)) (y:List Nat) (k x:Nat) (h:x∈acc.getD k []):x∈(acc++[y]).getD k []:=by
 simp only[List.getD_eq_getElem?_getD] at h ⊢
 by_cases hk:k<acc.length
 ·rw[List.getElem?_append_left hk];exact h
 ·rw[List.getElem?_eq_none (by omega)] at h;simp at h
theorem Vy: ∀(l pre:List Oper) (acc:List (List Nat)),acc.length=pre.length->aEj (pre++l) acc->aEj (pre++l) (qH l acc)
 |[],_,_,_,h=>h
 | o::r,pre,acc,hl,h=>by
  have e1:pre++o::r=(pre++[o])++r:=by simp
  rw[e1] at h ⊢
  refine Vy r (pre++[o]) _ (by simp [hl]) ?_
  intro i oi hi hoi x hx
  by_cases hlt:i<acc.length
  ·have hx:x∈acc.getD i []:=by
    simp only[List.getD_eq_getElem?_getD] at hx ⊢
    rw[List.getElem?_append_left hlt] at hx;exact hx
   obtain⟨e,h1,h2,h3⟩:=h i oi hlt hoi x hx
   exact⟨e,h1,h2,h3.imp id (Hr _ _ _ _)⟩
  ·have hi':i=acc.length:=by simp at hi;omega
   subst hi'
   have ho:oi=o:=by
    rw[hl] at hoi
    simp at hoi;exact hoi.symm
   subst ho
   simp only[List.getD_eq_getElem?_getD] at hx
   rw[List.getElem?_append_right (Nat.le_refl _),Nat.sub_self] at hx
   simp only[List.getElem?_cons_zero,Option.getD_some] at hx
   simp only[<-List.getD_eq_getElem?_getD] at hx
   rcases aIz acc _ _ x hx with h|⟨e,h1,h2,h3⟩
   ·cases h
   ·exact⟨e,by simpa using h1,h2,h3.imp id (Hr _ _ _ _)⟩
def mk (l:List Nat):Nat:=l.foldr (fun t m=>(1<<<t)|||m) 0
theorem aFq: ∀(l:List Nat) (t:Nat),t∈l->(mk l).testBit t=true
 |a::l,t,h=>by
  simp only[mk,List.foldr_cons,Nat.testBit_or,Bool.or_eq_true]
  rcases List.mem_cons.1 h with rfl|h
  ·left;simp [Nat.testBit_shiftLeft]
  ·right;exact aFq l t h
def Pj (o:Oper):Nat:=match o.dst with
 |some d=>1<<<d
 |none=>0
def Pm (ops:Array Oper) (o:Oper):Nat:=mk (o.looksAt ops)
def Tt (x y:Nat×Nat):Bool:=Nat.beq (x.1 &&& y.2) 0 && Nat.beq (x.1 &&& y.1) 0 && Nat.beq (y.1 &&& x.2) 0
theorem aBt {d m:Nat} (h:(1<<<d) &&& m=0):m.testBit d=false:=by
 have:=congrArg (fun n=>n.testBit d) h
 simpa [Nat.testBit_and,Nat.testBit_shiftLeft] using this
theorem aN5 {ops:Array Oper} {x y:Oper} (h:Tt (Pj x,Pm ops x) (Pj y,Pm ops y)=true):x.apart ops y=true:=by
 simp only[Tt,Bool.and_eq_true] at h
 obtain⟨⟨h1,h2⟩,h3⟩:=h
 replace h1:=Nat.eq_of_beq_eq_true h1
 replace h2:=Nat.eq_of_beq_eq_true h2
 replace h3:=Nat.eq_of_beq_eq_true h3
 unfold Oper.apart
 simp only[Bool.and_eq_true]
 constructor
 ·cases hx:x.dst with
  |none=>rfl
  | some d=>
   simp only[Pj,hx] at h1 h2
   simp only[Bool.and_eq_true,Bool.not_eq_true',bne_iff_ne,ne_eq]
   refine⟨?_,fun hy=>?_⟩
   ·cases hc:(y.looksAt ops).contains d with
    |false=>rfl
    |true=>
     have:=aFq _ d (by simpa using hc)
     have h0:=aBt h1
     unfold Pm at h0
     rw[h0] at this;cases this
   ·rw[hy] at h2
    have h0:=aBt h2
    simp [Nat.testBit_shiftLeft] at h0
 ·cases hy:y.dst with
  |none=>rfl
  | some d=>
   simp only[Pj,hy] at h3
   cases hc:(x.looksAt ops).contains d with
   |false=>simp only[hc];rfl
   |true=>
    have:=aFq _ d (by simpa using hc)
    have h0:=aBt h3
    unfold Pm at h0
    rw[h0] at this;cases this
def Vz (anc:List (List Nat)):Nat->List (Nat×Nat)->List (Nat×(Nat×Nat))->Bool
 |_,[],_=>true
 |i,m::r,prev=>(prev.all fun q=>Tt q.2 m||(anc.getD i []).contains q.1) && Vz anc (i+1) r ((i,m)::prev)
theorem Zy {anc:List (List Nat)}: ∀(l:List (Nat×Nat)) (i:Nat) (prev:List (Nat×(Nat×Nat))),Vz anc i l prev=true-> ∀(k:Nat) (m:Nat×Nat),l[k]?=some m->
  (∀q∈prev,Tt q.2 m=true\/(anc.getD (i+k) []).contains q.1=true)/\ ∀j mj,j<k->l[j]?=some mj->Tt mj m=true\/(anc.getD (i+k) []).contains (i+j)=true
 |[],_,_,_,k,m,hk=>by simp at hk
 | x::r,i,prev,h,k,m,hk=>by
  simp only[Vz,Bool.and_eq_true,List.all_eq_true,Bool.or_eq_true] at h
  cases k with
  |zero=>
   simp at hk;subst hk
   exact⟨h.1,fun j mj hj=>absurd hj (Nat.not_lt_zero _)⟩
  | succ k=>
   have ih:=Zy r (i+1) _ h.2 k m (by simpa using hk)
   rw[show i+1+k=i+(k+1) by omega] at ih
   refine⟨fun q hq=>ih.1 q (by simp [hq]),fun j mj hj hmj=>?_⟩
   cases j with
   |zero=>
    simp at hmj;subst hmj
    exact ih.1 (i,x) (by simp)
   |succ j=>
    have:=ih.2 j mj (by omega) (by simpa using hmj)
    rwa [show i+1+j=i+(j+1) by omega] at this
def vO (ops:Array Oper) (anc:List (List Nat)):Bool:=
 ((List.range ops.size).all fun i=>match ops[i]? with
  |none=>true
  |some o=>o.after.toList.all fun e=>!Region.binds .any e||Nat.blt e.on i) &&
 Vz anc 0 (ops.toList.map fun o=>(Pj o,Pm ops o)) []
theorem Ht: ∀(h:DH) (k:Nat) (b:aI),hget (jA h) k=some b->bY h k=some b
 |[],_,_,h=>by simp [jA,hget] at h
 |(k',some b')::r,k,b,h=>by
  simp only[jA,hget] at h
  simp only[bY]
  split
  ·rename_i e;rw[if_pos e] at h;exact h
  ·rename_i e;rw[if_neg e] at h;exact Ht r k b h
 |(k',none)::r,k,b,h=>by
  simp only[jA] at h
  rw[qB] at h
  simp only[dD] at h
  simp only[bY]
  split
  ·rename_i e;rw[if_pos e] at h;cases h
  ·rename_i e;rw[if_neg e] at h;exact Ht r k b h
theorem Pn: ∀(h:List (Nat×aI)) (k:Nat),bY (h.map fun x=>(x.1,some x.2)) k=hget h k
 |[],_=>rfl
 |(k',b)::r,k=>by simp only[List.map_cons,bY,hget,Pn r k]
theorem Gp (nx0:Nat) (h:List (Nat×aI)): ∀(l:List Nat) (k:Nat) (b:aI),bY (nG nx0 l h) k=some b->hget h k=some b
 |[],k,b,hk=>by simp only[nG,List.map_nil,List.nil_append] at hk;rw[Pn] at hk;exact hk
 |p::l,k,b,hk=>by
  simp only[nG,List.map_cons,List.cons_append,bY] at hk
  split at hk
  ·cases hk
  ·exact Gp nx0 h l k b hk
theorem Ye {R:List Nat}: ∀(h:DH) (k:Nat) (b:aI),bY (hsel R h) k=some b->bY h k=some b/\R.contains k=true
 |[],_,_,h=>by simp [hsel,bY] at h
 | (k',c)::r,k,b,h=>by
  simp only[hsel,List.filter_cons] at h
  by_cases hc:R.contains k'=true
  ·simp only[hc,if_true,bY] at h
   simp only[bY]
   split at h
   ·rename_i e;subst e;rw[if_pos rfl];exact⟨h,hc⟩
   ·rename_i e;rw[if_neg e];exact Ye r k b h
  ·have hc':R.contains k'=false:=by simpa using hc
   simp only[hc',Bool.false_eq_true,if_false] at h
   obtain⟨h1,h2⟩:=Ye r k b h
   have hne: ¬k=k':=fun e=>by subst e;rw[h2] at hc';cases hc'
   simp only[bY,hne,if_false]
   exact⟨h1,h2⟩
theorem Ef {R:List Nat}: ∀(h:DH) (k:Nat),fO (hkeep R h) k=true->R.contains k=false
 |[],_,h=>by simp [hkeep,fO] at h
 | (k',c)::r,k,h=>by
  simp only[hkeep,List.filter_cons] at h
  by_cases hc:R.contains k'=true
  ·simp only[hc,Bool.not_true,Bool.false_eq_true,if_false] at h
   exact Ef r k h
  ·have hc':R.contains k'=false:=by simpa using hc
   simp only[hc',Bool.not_false,if_true,fO] at h
   split at h
   ·rename_i e;subst e;exact hc'
   ·exact Ef r k h
theorem Inv.hide {M:Mem} {al:Nat->Prop} {hp:Hp} {W w:World} (inv:Inv G M al hp W w) (S:Nat->Bool) {hp1:Hp} (h1: ∀k b,hp1 k=some b->hp k=some b/\S k=true) {al1:Nat->Prop} (hal: ∀k,al k->al1 k):
    ∃ F1,Inv G {M with F:=F1} al1 hp1 W w/\ ∀(M':Mem) (w':World) (al':Nat->Prop) (hp':Hp),Mem.le {M with F:=F1} M'->Inv G M' al' hp' W w'->
      M.le {M' with F:=M.F}/\ ∀hp2:Hp,(∀k b,hp2 k=some b->(hp k=some b/\S k=false)\/hp' k=some b)->Inv G {M' with F:=M.F} al' hp2 W w':=by
  classical
  let hid:Nat->Prop:=fun b=> ∃k blk,hp k=some blk/\S k=false/\M.blockOf k blk=some b
  let F1:Nat->Option Obj:=fun b=>if hid b then w.heap[b]? else M.F b
  have hhid: ∀b,hid b->M.F b=none/\ ∃ob,w.heap[b]?=some ob/\F1 b=some ob:=by
    rintro b ⟨k,blk,g1,g2,g3⟩
    obtain⟨b',ob,q1,q2,q3,q4,q5⟩:=inv.live k blk g1
    rw[g3] at q1;cases q1
    exact⟨q4,ob,q2,by show(if hid b then w.heap[b]? else M.F b)=_;rw[if_pos ⟨k,blk,g1,g2,g3⟩];exact q2⟩
  have hF1: ∀b,¬hid b->F1 b=M.F b:=fun b hb=>if_neg hb
  have hF1some: ∀b,M.F b≠none->F1 b=M.F b:=fun b hb=>hF1 b fun hh=>hb (hhid b hh).1
  refine⟨F1,?_,?_⟩
  · refine⟨inv.imm,fun b ob hb=>?_,inv.os,inv.tape,inv.out,fun key hk=>inv.fresh key fun ha=>hk (hal key ha),fun key blk hk=>?_,fun k1 k2 b1 b2 b g1 g2=>inv.inj k1 k2 b1 b2 b (h1 _ _ g1).1 (h1 _ _ g2).1,inv.glob,fun _ _ _=>trivial⟩
    · by_cases hb':hid b
      · obtain⟨_,ob',q1,q2⟩:=hhid b hb'
        have hb2:F1 b=some ob:=hb
        rw[q2] at hb2;cases hb2;exact q1
      · have hb2:F1 b=some ob:=hb
        rw[hF1 b hb'] at hb2;exact inv.far b ob hb2
    · obtain⟨g1,g2⟩:=h1 key blk hk
      obtain⟨b,ob,q1,q2,q3,q4,q5⟩:=inv.live key blk g1
      refine⟨b,ob,q1,q2,q3,?_,q5⟩
      show F1 b=none
      rw[hF1 b ?_];· exact q4
      rintro⟨k,blk',r1,r2,r3⟩
      have:=inv.inj k key blk' blk b r1 g1 r3 q1
      subst this
      rw[g2] at r2;cases r2
  · intro M' w' al' hp' hle inv'
    have hle2:M.le {M' with F:=M.F}:=⟨hle.I,hle.L,hle.T,fun _ _ h=>h,fun b o hb=>hle.IF b o (by show F1 b≠none;rw[hF1some b hb];exact hb)⟩
    refine⟨hle2,fun hp2 h2=>?_⟩
    have aside: ∀key blk,hp key=some blk->S key=false-> ∃b ob,M.blockOf key blk=some b/\Mem.blockOf {M' with F:=M.F} key blk=some b/\w'.heap[b]?=some ob/\dC {M' with F:=M.F} key blk ob/\M.F b=none/\(blk.isTok=false-> ∀o,M'.I b o=none)/\M'.F b≠none:=by
      intro key blk g1 g2
      obtain⟨b,ob,q1,q2,q3,q4,q5⟩:=inv.live key blk g1
      have hb:hid b:=⟨key,blk,g1,g2,q1⟩
      obtain⟨_,ob',r1,r2⟩:=hhid b hb
      rw[q2] at r1;cases r1
      have hMF:M'.F b=some ob:=hle.F b ob r2
      have hI: ∀o,M'.I b o=M.I b o:=fun o=>hle.IF b o (by show F1 b≠none;rw[r2];simp)
      refine⟨b,ob,q1,Mem.blockOf_mono hle2 q1,inv'.far b ob hMF,q3.grow hle2 (fun ht b' e z hT o ho=>?_),q4,fun ht o=>?_,by rw[hMF];simp⟩
      · cases blk<;>simp [aI.isTok] at ht
        cases ob<;>simp only[dC] at q3
        obtain⟨_,b1,e1,z1,s1,_,_,s4⟩:=q3
        rw[hT] at s1;cases s1
        have:b=b':=by simpa [Mem.blockOf,aI.isTok,hT] using q1.symm
        subst this
        show M'.I b o=none
        rw[hI o];exact s4 o ho
      · rw[hI o];exact q5 ht o
    refine⟨inv'.imm,fun b ob hb=>?_,inv'.os,inv'.tape,inv'.out,inv'.fresh,fun key blk hk=>?_,fun k1 k2 b1 b2 b g1 g2 g3 g4=>?_,inv'.glob,fun _ _ _=>trivial⟩
    · have hb':M.F b=some ob:=hb
      have:F1 b=some ob:=by rw[hF1some b (by rw[hb'];simp)];exact hb'
      exact inv'.far b ob (hle.F b ob this)
    · rcases h2 key blk hk with⟨g1,g2⟩|g1
      · obtain⟨b,ob,_,q1,q2,q3,q4,q5,_⟩:=aside key blk g1 g2
        exact⟨b,ob,q1,q2,q3,q4,q5⟩
      · obtain⟨b,ob,q1,q2,q3,q4,q5⟩:=inv'.live key blk g1
        refine⟨b,ob,q1,q2,q3,?_,q5⟩
        show M.F b=none
        cases e:M.F b with
        |none=>rfl
        | some x=>
          have:F1 b=some x:=by rw[hF1some b (by rw[e];simp)];exact e
          rw[hle.F b x this] at q4;cases q4
    · rcases h2 k1 b1 g1 with⟨r1,r2⟩|r1<;>rcases h2 k2 b2 g2 with⟨t1,t2⟩|t1
      · obtain⟨c1,_,q1,q1',_⟩:=aside k1 b1 r1 r2
        obtain⟨c2,_,q2,q2',_⟩:=aside k2 b2 t1 t2
        rw[g3] at q1';rw[g4] at q2';cases q1';cases q2'
        exact inv.inj k1 k2 b1 b2 b r1 t1 q1 q2
      · obtain⟨c1,_,q1,q1',_,_,_,_,q6⟩:=aside k1 b1 r1 r2
        rw[g3] at q1';cases q1'
        obtain⟨c2,_,p1,_,_,p4,_⟩:=inv'.live k2 b2 t1
        have g4':M'.blockOf k2 b2=some b:=g4
        rw[g4'] at p1;cases p1
        exact absurd p4 q6
      · obtain⟨c1,_,q1,q1',_,_,_,_,q6⟩:=aside k2 b2 t1 t2
        rw[g4] at q1';cases q1'
        obtain⟨c2,_,p1,_,_,p4,_⟩:=inv'.live k1 b1 r1
        have g3':M'.blockOf k1 b1=some b:=g3
        rw[g3'] at p1;cases p1
        exact absurd p4 q6
      · exact inv'.inj k1 k2 b1 b2 b r1 t1 g3 g4
section
variable {ops:Array Oper} {anc:List (List Nat)}
theorem Jj (h:vO ops anc=true/\aEj ops.toList anc/\anc.length=ops.size) {i:Nat} {o:Oper} (ho:ops[i]?=some o):
  (∀e∈o.after,Region.binds .any e=true->e.on<i)/\(∀a∈anc.getD i [],∃e∈o.after,Region.binds .any e=true/\(a=e.on\/a∈anc.getD e.on []))/\
  ∀j o',j<i->ops[j]?=some o'->(anc.getD i []).contains j=false->o'.apart ops o=true:=by
 have hi:i<ops.size:=(Array.getElem?_eq_some_iff.1 ho).1
 obtain⟨h,h2,hl⟩:=h
 simp only[vO,Bool.and_eq_true,List.all_eq_true] at h
 obtain⟨h1,h3⟩:=h
 refine⟨fun e he hb=>?_,h2 i o (by omega) (by simpa using ho),fun j o' hj ho' hn=>?_⟩
 ·have:=h1 i (List.mem_range.2 hi)
  rw[ho] at this
  simp only[List.all_eq_true,Bool.or_eq_true] at this
  rcases this e (by simpa using he) with h|h
  ·rw[hb] at h;cases h
  ·have:e.on+1<=i:=by simpa [Nat.blt] using h
   omega
 ·have:=(Zy _ 0 [] h3 i (Pj o,Pm ops o) (by simp [ho])).2 j (Pj o',Pm ops o') hj (by simp [ho'])
  simp only[Nat.zero_add] at this
  rcases this with h|h
  ·exact aN5 h
  ·rw[hn] at h;cases h
theorem Yf {gc:GC} {F:Fence} (hF:Free F) {W:World} (hgc:GcOk F P G W gc) (hs:vO ops anc=true/\aEj ops.toList anc/\anc.length=ops.size) {marks:List Nat} {K:Nat->List AV->DH->Prop} {Q:Exit->Act->World->Prop} {M0:Mem} {n:Nat}
  (hQ: ∀M nx0 s h a w,M0.le M->aFp G W M nx0 ops.size [] s marks h a w->K nx0 s h->Q .normal a w): ∀(m:Nat) (l:List Nat) (listed:Array Bool) (nx0:Nat) (s:List AV) (h:DH) (M:Mem) (a:Act) (w:World),l.length=m->
   listed.size=ops.size->(∀i,i<ops.size->(listed.getD i true=false↔i∈l))->(∀i∈l,i<ops.size)->l.Pairwise (· < ·)->(∀i,i<ops.size->i ∉ l-> ∀x∈anc.getD i [],x ∉ l)->
   M0.le M->aFp G W M nx0 ops.size l s marks h a w->sS P G gc ops anc K l [] nx0 s h->wpAnyIn F n P .any ops Q m listed a w:=by
 intro m
 induction m with
 |zero=>
  intro l listed nx0 s h M a w hm hsz hl hlt hp hdown hM sim hd
  have hl0:l=[]:=List.eq_nil_of_length_eq_zero hm
  subst hl0
  refine⟨?_,hQ M nx0 s h a w hM sim hd⟩
  rw[List.eq_nil_iff_forall_not_mem]
  intro i hi
  obtain⟨h1,o,ho,_⟩:=mem_ready.1 hi
  have:=(hl i (Array.getElem?_eq_some_iff.1 ho).1).1 h1
  cases this
 | succ m ih=>
  intro l listed nx0 s h M a w hm hsz hl hlt hp hdown hM sim hd
  have hlisted: ∀i,i<ops.size->i ∉ l->listed.getD i false=true:=fun i hi hn=>by
   have: ¬listed.getD i true=false:=fun e=>hn ((hl i hi).1 e)
   have hi':i<listed.size:=by rw[hsz];exact hi
   simp [Array.getD,hi'] at this ⊢
   exact this
  refine⟨fun h0=>?_,fun i hi=>?_⟩
  ·exfalso
   cases l with
   |nil=>simp at hm
   | cons x xs=>
    have hx:x<ops.size:=hlt x (by simp)
    have ho:ops[x]?=some ops[x]:=Array.getElem?_eq_getElem hx
    have:x∈Region.ready .any ops listed:=by
     refine mem_ready.2 ⟨(hl x hx).2 (by simp),ops[x],ho,fun e he hb=>?_⟩
     have hlt':=(Jj hs ho).1 e he hb
     refine hlisted e.on (Nat.lt_trans hlt' hx) fun hm=>?_
     rcases List.mem_cons.1 hm with h1|h1
     ·omega
     ·have:=(List.pairwise_cons.1 hp).1 _ h1
      omega
    rw[h0] at this;cases this
  ·obtain⟨h1,o,ho,hall⟩:=mem_ready.1 hi
   have hisz:i<ops.size:=(Array.getElem?_eq_some_iff.1 ho).1
   have hil:i∈l:=(hl i hisz).1 h1
   obtain⟨l1,l2,rfl⟩:=List.append_of_mem hil
   have hdone: ∀e∈o.after,Region.binds .any e=true->e.on<ops.size/\e.on ∉ l1++i::l2:=fun e he hb=>by
    have hlt':=(Jj hs ho).1 e he hb
    have hsz':=Nat.lt_trans hlt' hisz
    refine⟨hsz',fun hm=>?_⟩
    have:=hall e he hb
    have h2:=(hl e.on hsz').2 hm
    have hi':e.on<listed.size:=by rw[hsz];exact hsz'
    simp [Array.getD,hi'] at this h2
    rw[this] at h2;cases h2
   have hanc: ∀x∈anc.getD i [],x ∉ l1++i::l2:=fun x hx=>by
    obtain⟨e,he,hb,hxe⟩:=(Jj hs ho).2.1 x hx
    obtain⟨g1,g2⟩:=hdone e he hb
    rcases hxe with rfl|hxe
    ·exact g2
    ·exact hdown e.on g1 g2 x hxe
   have hpw:=List.pairwise_append.1 hp
   have hl1: ∀p∈l1,p<i:=fun p hp'=>hpw.2.2 p hp' i (by simp)
   have hl2: ∀p∈l2,i<p:=fun p hp'=>(List.pairwise_cons.1 hpw.2.1).1 p hp'
   have hn:i ∉ l1++l2:=fun hm=>by
    rcases List.mem_append.1 hm with h|h
    ·have:=hl1 i h;omega
    ·have:=hl2 i h;omega
   have hfront:=Xh l1 (fun p hp'=>by
    have hnc:(anc.getD i []).contains p=false:=by
     cases hc:(anc.getD i []).contains p with
     |false=>rfl
     |true=>exact absurd (List.mem_append_left _ hp') (hanc p (by simpa using hc))
    refine⟨hnc,fun op oi h1 h2=>?_⟩
    rw[ho] at h2
    simp only[Option.some.injEq] at h2;subst h2
    exact(Jj hs ho).2.2 p op (hl1 p hp') h1 hnc) hd
   obtain⟨o',e,v,h',nx',k1,k2,k3,k5⟩:=hfront
   rw[ho] at k1
   simp only[Option.some.injEq] at k1;subst k1
   have ih':=fun nx s h M a w=>ih (l1++l2) (listed.setIfInBounds i true) nx s h M a w (by simp at hm ⊢;omega) (by simpa using hsz) (fun j hj=>by
     by_cases hji:i=j
     ·subst hji
      have hi':i<listed.size:=by rw[hsz];exact hisz
      simp only[List.mem_append] at hn
      simp [Array.getD,hi',hn]
     ·rw[getD_set_ne true hji,hl j hj]
      have: ¬j=i:=fun e=>hji e.symm
      simp [this]) (fun j hj=>hlt j (by rcases List.mem_append.1 hj with h|h<;>simp [h])) (by
     refine List.pairwise_append.2 ⟨hpw.1,(List.pairwise_cons.1 hpw.2.1).2,fun a ha b hb=>hpw.2.2 a ha b (by simp [hb])⟩) (fun j hj hjn x hx hxl=>by
     have hxl':x∈l1++i::l2:=by rcases List.mem_append.1 hxl with h|h<;>simp [h]
     by_cases hji:j=i
     ·subst hji;exact hanc x hx hxl'
     ·refine hdown j hj (fun hm=>hjn ?_) x hx hxl'
      rcases List.mem_append.1 hm with h|h
      ·exact List.mem_append_left _ h
      ·rcases List.mem_cons.1 h with h|h
       ·exact absurd h hji
       ·exact List.mem_append_right _ h)
   have k5':=aA1 (log':=[]) (l1++l2) (fun x hx=>by cases hx) k5
   have hal0: ∀k,alD nx0 ops.size (l1++i::l2) k->alD nx0 ops.size (l1++l2) k:=fun k hk=>⟨hk.1,fun p hp'=>hk.2 p (by rcases List.mem_append.1 hp' with h|h<;>simp [h])⟩
   have hal: ∀k,lD (alD nx0 ops.size (l1++i::l2)) (nx0+i) k->alD nx0 ops.size (l1++l2) k:=fun k hk=>by
    rcases hk with hk|rfl
    ·exact hal0 k hk
    ·refine⟨by omega,fun p hp' he=>hn ?_⟩
     have:p=i:=by omega
     rw[<-this];exact hp'
   have hnal: ¬alD nx0 ops.size (l1++i::l2) (nx0+i):=fun hk=>hk.2 i (by simp) rfl
   unfold wpOpIn
   rw[ho]
   simp only
   have hnd:mW ops s o=some true->(∃r,jM P G s (bY h) (nx0+i) o=some r)-> ∀c,o.op≠ .defer c:=by
    rintro _ ⟨r,hres⟩ c hc'
    obtain⟨dst,op,ty,pos,after,guard⟩:=o
    simp only at hc'
    subst hc'
    simp [jM,Ah,nS,Ak] at hres
   rcases k2 with⟨hw,rfl,rfl,rfl,_⟩|⟨hw,u,hres,k4,rfl,rfl,_⟩|⟨hw,⟨f,args,hres,hPl⟩,rfl,rfl,_⟩|⟨hw,R,⟨y,f,args,st',hres,hg,_,_,rfl,rfl⟩,_⟩|⟨hw,R,⟨f,args,hr,hres,hRd,hsub⟩,rfl,rfl,_⟩
   ·have hw':=xQ sim.rs hw
    rw[if_neg (by rw[hw'];simp)]
    exact⟨fun f _=>hF.fn f,ih' _ _ _ M _ _ hM (sim.put M.le_refl (sim.inv.more hal0) o.dst aAj) k5'⟩
   ·have hup:=aDx u h k4
    have hw':=xQ sim.rs hw
    rw[if_pos hw']
    refine⟨fun f _=>hF.fn f,?_⟩
    rw[Oper.semAt_eq _ _ _ (hnd hw (by rcases hres with h|⟨h,_⟩<;>exact⟨_,h⟩))]
    rcases hres with hres|⟨hres,rfl⟩
    ·obtain⟨v',w',M',h1,h2,h3,h4⟩:=Am (P:=P) sim.inv hnal sim.rs hres
     rw[h1]
     refine ih' _ _ _ M' _ _ (Mem.le_trans hM h2) (sim.put h2 ?_ o.dst h4) k5'
     rw[hup]
     exact h3.more hal
    ·obtain⟨w',M',h1,h2,h3⟩:=Am (P:=P) sim.inv hnal sim.rs hres
     rw[h1]
     refine ih' _ _ _ M' _ _ (Mem.le_trans hM h2) (sim.put h2 ?_ o.dst aAj) k5'
     rw[hup]
     exact h3.more hal
   ·have hw':=xQ sim.rs hw
    rw[if_pos hw']
    refine⟨fun f _=>hF.fn f,?_⟩
    rw[Oper.semAt_eq _ _ _ (hnd hw ⟨_,hres⟩)]
    obtain⟨vs,g1,g2⟩:=Am (P:=P) sim.inv hnal sim.rs hres
    obtain⟨⟨fn,q1,q2,q3⟩,hcall⟩:=PC.callG hF hPl sim.inv g1
    rw[g2,Ox q1 q2 q3,Oper.uponIn_enter]
    refine⟨fun hd=>by rw[hF.depth] at hd;simp at hd,(hcall (n - 1)).mono ?_⟩
    rintro e w' ⟨M',v',av,rfl,r1,r2,r3,rfl⟩
    exact ih' _ _ _ M' _ _ (Mem.le_trans hM r1) (sim.put r1 (r2.more hal0) o.dst r3) k5'
   ·have hw':=xQ sim.rs hw
    rw[if_pos hw']
    refine⟨fun f _=>hF.fn f,?_⟩
    rw[Oper.semAt_eq _ _ _ (hnd hw ⟨_,hres⟩)]
    have hg':=hgc _ _ _ _ _ _ hg
    obtain⟨F1,inv1,hback⟩:=sim.inv.hide (fun k=>R.contains k) (hp1:=hget (jA (hsel R h))) (al1:=(· <nx0+ops.size)) (fun k b hk=>Ye h k b (Ht _ _ _ hk)) (fun k hk=>hk.1)
    have fin: ∀w' M' v' av st2,Mem.le {M with F:=F1} M'->Inv G M' (· <st2.nx) st2.hp W w'->M'.rel av v'->av=v/\st2=st'->wpAnyIn F n P .any ops Q m (listed.setIfInBounds i true) (a.put o.dst v') w':=by
     rintro w' M' v' av st2 r1 r2 r3 ⟨rfl,rfl⟩
     obtain⟨hle2,hinv2⟩:=hback M' w' _ _ r1 r2
     refine ih' _ _ _ {M' with F:=M.F} _ _ (Mem.le_trans hM hle2) (sim.put hle2 ?_ o.dst r3) k5'
     refine(hinv2 (bY (hkeep R h++nG st2.nx (news 0 ops.toList) st2.h)) fun k b hk=>?_).more fun k hk=>⟨?_,fun p _=>?_⟩
     ·rw[Io] at hk
      split at hk
      ·rename_i hh
       have hR:=Ef h k hh
       rw[Uz h k hR] at hk
       exact .inl ⟨hk,hR⟩
      ·exact .inr (Gp _ _ _ _ _ hk)
     ·have:k<st2.nx:=hk
      omega
     ·have:k<st2.nx:=hk
      omega
    cases y with
    |false=>
     simp only[Bool.false_eq_true,if_false] at hg'
     have hres':jM P G s (bY h) (nx0+i) o=some (.call f args):=by simpa [tgt] using hres
     obtain⟨vs,g1,g2⟩:=Am (P:=P) sim.inv hnal sim.rs hres'
     obtain⟨⟨fn,q1,q2,q3⟩,hcall⟩:=hg' {M with F:=F1} w vs inv1 g1
     rw[g2,Ox q1 q2 q3,Oper.uponIn_enter]
     refine⟨fun hd=>by rw[hF.depth] at hd;simp at hd,(hcall (n - 1)).mono ?_⟩
     rintro e w' ⟨M',v',av,st2,rfl,r1,r2,r3,r4⟩
     exact fin w' M' v' av st2 r1 r2 r3 r4
    |true=>
     simp only[if_true] at hg'
     have hres':jM P G s (bY h) (nx0+i) o=some (.yield f args):=by simpa [tgt] using hres
     obtain⟨l,vs,hL,g1,g2⟩:=Am (P:=P) sim.inv hnal sim.rs hres'
     obtain⟨f',tmps,assign,body,t1,t2⟩:=hg' {M with F:=F1} w vs inv1 g1 l hL
     rw[g2,t1,Oper.uponIn_round]
     refine⟨fun hd=>by rw[hF.depth] at hd;simp at hd,(t2 (n - 1)).mono ?_⟩
     rintro e w' ⟨M',v',av,st2,rfl,r1,r2,r3,r4⟩
     exact fin w' M' v' av st2 r1 r2 r3 r4
   ·have hw':=xQ sim.rs hw
    rw[if_pos hw']
    refine⟨fun f _=>hF.fn f,?_⟩
    rw[Oper.semAt_eq _ _ _ (hnd hw ⟨_,hres⟩)]
    obtain⟨vs,g1,g2⟩:=Am (P:=P) sim.inv hnal sim.rs hres
    obtain⟨⟨fn,q1,q2,q3⟩,hcall⟩:=hRd F hF W _ _ _ _ _ _ (fun k hk=>hk.1) (fun k b hb=>(hsub k b hb).2) sim.inv g1
    rw[g2,Ox q1 q2 q3,Oper.uponIn_enter]
    refine⟨fun hd=>by rw[hF.depth] at hd;simp at hd,(hcall (n - 1)).mono ?_⟩
    rintro e w' ⟨M',v',rfl,r1,r2,r3⟩
    exact ih' _ _ _ M' _ _ (Mem.le_trans hM r1) (sim.put r1 (r2.more hal0) o.dst r3) k5'
end
theorem Po: ∀(l:List Oper) (acc:List (List Nat)),(qH l acc).length=acc.length+l.length
 |[],_=>by simp [qH]
 |o::r,acc=>by simp [qH,Po r];omega
section
variable {R:Type}
end
end Go.Proofs.Pv
