/-
The abstract machine, part K: regions, code and calls; and that a good run of the abstract machine is a good run of the model.
Conditions: none but those that each statement names.
-/
import Derived.Test.YtlcnbhiklpfpjaaGreatDoorPvR
import Derived.RangeFuncRecord
set_option linter.unusedVariables false
set_option linter.unusedSimpArgs false
set_option maxRecDepth 100000
set_option maxHeartbeats 16000000
namespace Go.Proofs.Pv
open Go
variable {P:Program} {G:Nat->Option (List AV)}
structure St where
 h:List (Nat×aI)
 nx:Nat
def hget:List (Nat×aI)->Nat->Option aI
 |[],_=>none
 |(k',b)::r,k=>if k=k' then some b else hget r k
def hset:List (Nat×aI)->Nat->aI->List (Nat×aI)
 |[],k,b=>[(k,b)]
 |(k',b')::r,k,b=>if k=k' then(k,b)::r else(k',b')::hset r k b
def hdel:List (Nat×aI)->Nat->List (Nat×aI)
 |[],_=>[]
 |(k',b')::r,k=>if k=k' then hdel r k else(k',b')::hdel r k
def Ei (nx:Nat) (h:List (Nat×aI)):List (Nat×Option aI)->List (Nat×aI)
 |[]=>h
 |(k,none)::u=>Ei nx (hdel h k) u
 |(k,some b)::u=>Ei nx (if k=nx then(k,b)::h else hset h k b) u
def St.hp (st:St):Hp:=hget st.h
def St.app (st:St) (u:List (Nat×Option aI)):St:=⟨Ei st.nx st.h u,st.nx+1⟩
theorem zH: ∀(h:List (Nat×aI)) (k:Nat) (b:aI),hget (hset h k b)=dD (hget h) k (some b)
 |[],k,b=>by funext q;simp [hset,hget,dD]
 | (k',b')::r,k,b=>by
  funext q
  simp only[hset]
  split
  ·rename_i e;subst e;simp only[hget,dD];split<;>rfl
  ·rename_i e
   simp only[hget,zH r k b,dD]
   by_cases h1:q=k'
   ·subst h1
    have: ¬q=k:=fun h=>e h.symm
    simp [this]
   ·simp [h1]
theorem qB: ∀(h:List (Nat×aI)) (k:Nat),hget (hdel h k)=dD (hget h) k none
 |[],k=>by funext q;simp [hdel,hget,dD]
 | (k',b')::r,k=>by
  funext q
  simp only[hdel]
  split
  ·rename_i e;subst e
   rw[qB r k];simp only[hget,dD];split<;>rfl
  ·rename_i e
   simp only[hget,qB r k,dD]
   by_cases h1:q=k'
   ·subst h1
    have: ¬q=k:=fun h=>e h.symm
    simp [this]
   ·simp [h1]
theorem Dn (nx:Nat): ∀(u:List (Nat×Option aI)) (h:List (Nat×aI)),hget (Ei nx h u)=lQ (hget h) u
 |[],h=>rfl
 |(k,none)::u,h=>by simp only[Ei,lQ];rw[Dn nx u,qB]
 |(k,some b)::u,h=>by
  simp only[Ei,lQ]
  rw[Dn nx u]
  congr 1
  split
  ·rename_i e;subst e;funext q;simp [hget,dD]
  ·exact zH h k b
structure Fr where
 s:List AV
 marks:List Nat
inductive AX where
 |normal|exit (id:Nat)|goto (l:Nat)|ret
def AX.toExit:AX->Exit
 | .normal=> .normal
 | .exit id=> .exit id
 | .goto l=> .goto l
 | .ret=> .ret
abbrev dU (R:Type):=AX->Fr->St->R
structure Hand (R:Type) where
 fail:R
 call:FuncId->List AV->(AV->St->R)->St->R
 loop:Code->dU R->Fr->St->R
 yield:Nat->List AV->(AV->St->R)->St->R
 rangeF:Operand->Array Tmp->Code->Code->dU R->Fr->St->R
 draw:Array Oper->(Fr->St->R)->Fr->St->R
 both:List R->R
def Fr.put (fr:Fr) (d:Option Tmp) (v:AV):Fr:=
 match d with
 |some d=> {fr with s:=fr.s.set d v}
 |none=>fr
def uu:AV:= .tup []
theorem aAj {M:Mem}:M.rel uu undef:= .tup rfl (fun i h=>by simp at h)
def setF {R:Type}:List AV->Nat->AV->(List AV->R)->R
 |[],_,_,k=>k []
 |_::t,0,v,k=>k (v::t)
 |a::t,d+1,v,k=>setF t d v fun t'=>k (a::t')
theorem aJc {R:Type}: ∀(s:List AV) (d:Nat) (v:AV) (k:List AV->R),setF s d v k=k (s.set d v)
 |[],_,_,_=>rfl
 |_::_,0,_,_=>rfl
 |a::t,d+1,v,k=>by simp only[setF,List.set_cons_succ];rw[aJc t d v]
def Ui {R:Type} (fr:Fr) (d:Option Tmp) (v:AV) (k:Fr->R):R:=
 match d with
 |some d=>match fr with
  |⟨s,m⟩=>setF s d v fun s'=>k ⟨s',m⟩
 |none=>k fr
theorem aJd {R:Type} (fr:Fr) (d:Option Tmp) (v:AV) (k:Fr->R):Ui fr d v k=k (fr.put d v):=by
 cases d with
 |none=>rfl
 |some d=>cases fr;simp only[Ui,aJc,Fr.put]
section
variable {R:Type}
def Bc:Nat->(Nat->R)->R
 |0,k=>k 0
 |n+1,k=>k (n+1)
theorem Kv (n:Nat) (k:Nat->R):Bc n k=k n:=by cases n<;>rfl
def Uj:AV->(AV->R)->R
 | .int q (.ofNat n),k=>Bc n fun n'=>k (.int q (.ofNat n'))
 | .int q (.negSucc n),k=>Bc n fun n'=>k (.int q (.negSucc n'))
 | .ud,k=>k .ud
 | .bool true,k=>k (.bool true)
 | .bool false,k=>k (.bool false)
 | .str s,k=>k (.str s)
 | .sl a b c,k=>k (.sl a b c)
 | .msl a b c d,k=>k (.msl a b c d)
 | .mcap a b c d e,k=>k (.mcap a b c d e)
 | .vp a,k=>k (.vp a)
 | .ptr a b,k=>Bc b fun b'=>k (.ptr a b')
 | .nilp,k=>k .nilp
 | .fn a b c,k=>k (.fn a b c)
 | .yld a,k=>k (.yld a)
 | .nilf,k=>k .nilf
 | .map a,k=>k (.map a)
 | .nilm,k=>k .nilm
 | .agg a,k=>k (.agg a)
 | .tup a,k=>k (.tup a)
 | .nili,k=>k .nili
 | .ifc a b,k=>k (.ifc a b)
theorem aDi (v:AV) (k:AV->R):Uj v k=k v:=by
 cases v<;>try rfl
 ·rename_i q n;cases n<;>simp only[Uj,Kv]
 ·rename_i b;cases b<;>rfl
 ·simp only[Uj,Kv]
def Bd:List AV->(List AV->R)->R
 |[],k=>k []
 |a::t,k=>Uj a fun a'=>Bd t fun t'=>k (a'::t')
theorem Qi: ∀(l:List AV) (k:List AV->R),Bd l k=k l
 |[],_=>rfl
 |a::t,k=>by simp only[Bd,aDi];rw[Qi t]
def Uk:AV->(AV->R)->R
 | .agg cs,k=>Bd cs fun cs'=>k (.agg cs')
 | .tup cs,k=>Bd cs fun cs'=>k (.tup cs')
 | .vp cs,k=>Bd cs fun cs'=>k (.vp cs')
 |x,k=>Uj x k
theorem Ul (v:AV) (k:AV->R):Uk v k=k v:=by
 cases v<;>simp only[Uk,aDi,Qi]
def Ns:List AV->(List AV->R)->R
 |[],k=>k []
 |a::t,k=>Uk a fun a'=>Ns t fun t'=>k (a'::t')
theorem aAk: ∀(l:List AV) (k:List AV->R),Ns l k=k l
 |[],_=>rfl
 |a::t,k=>by simp only[Ns,Ul];rw[aAk t]
def aF7:AV->(AV->R)->R
 | .sl n rows t,k=>Ns rows fun rows'=>k (.sl n rows' t)
 | .tup cs,k=>Ns cs fun cs'=>k (.tup cs')
 |x,k=>Uk x k
theorem aOy (v:AV) (k:AV->R):aF7 v k=k v:=by
 cases v<;>simp only[aF7,Ul,aAk]
def aF8 (o:Op) (v:AV) (k:AV->R):R:=
 match o with
 | .move _| .assign _| .pick _ _ _| .extract _ _=>k v
 | .buildSlice _ _ _| .slice _ _ _ _ _| .call _=>aF7 v k
 |_=>Uk v k
theorem aDj (o:Op) (v:AV) (k:AV->R):aF8 o v k=k v:=by
 unfold aF8;split<;>first|rfl|rw[aOy]|rw[Ul]
def aF9:aI->(aI->R)->R
 | .cells cs,k=>Bd cs fun cs'=>k (.cells cs')
 |x,k=>k x
theorem aOz (b:aI) (k:aI->R):aF9 b k=k b:=by
 cases b<;>simp only[aF9,Qi]
def aEl:List (Nat×aI)->Nat->aI->(List (Nat×aI)->R)->R
 |[],q,b,k=>k [(q,b)]
 |(q',b')::r,q,b,k=>if q=q' then k ((q,b)::r) else aEl r q b fun r'=>k ((q',b')::r')
theorem aGa: ∀(h:List (Nat×aI)) (q:Nat) (b:aI) (k:List (Nat×aI)->R),aEl h q b k=k (hset h q b)
 |[],_,_,_=>rfl
 |(q',b')::r,q,b,k=>by
  simp only[aEl,hset]
  split
  ·rfl
  ·rw[aGa r]
def aAl:List (Nat×aI)->Nat->(List (Nat×aI)->R)->R
 |[],_,k=>k []
 |(q',b')::r,q,k=>if q=q' then aAl r q k else aAl r q fun r'=>k ((q',b')::r')
theorem Yn: ∀(h:List (Nat×aI)) (q:Nat) (k:List (Nat×aI)->R),aAl h q k=k (hdel h q)
 |[],_,_=>rfl
 |(q',b')::r,q,k=>by
  simp only[aAl,hdel]
  split
  ·rw[Yn r]
  ·rw[Yn r]
def Qj (nx:Nat):List (Nat×Option aI)->List (Nat×aI)->(List (Nat×aI)->R)->R
 |[],h,k=>k h
 |(q,none)::u,h,k=>aAl h q fun h'=>Qj nx u h' k
 |(q,some b)::u,h,k=>aF9 b fun b'=>if q=nx then Qj nx u ((q,b')::h) k else aEl h q b' fun h'=>Qj nx u h' k
theorem Qk (nx:Nat): ∀(u:List (Nat×Option aI)) (h:List (Nat×aI)) (k:List (Nat×aI)->R),Qj nx u h k=k (Ei nx h u)
 |[],_,_=>rfl
 |(q,none)::u,h,k=>by simp only[Qj,Yn,Ei];rw[Qk nx u]
 |(q,some b)::u,h,k=>by
  simp only[Qj,aOz,aGa,Ei]
  split
  ·rw[Qk nx u]
  ·rw[Qk nx u]
def appF (st:St) (u:List (Nat×Option aI)) (k:St->R):R:=
 match st with
 |⟨h,nx⟩=>match u with
  |[]=>Bc (nx+1) fun nx'=>k ⟨h,nx'⟩
  |u=>Qj nx u h fun h'=>Bc (nx+1) fun nx'=>k ⟨h',nx'⟩
theorem aJe (st:St) (u:List (Nat×Option aI)) (k:St->R):appF st u k=k (st.app u):=by
 cases st
 unfold appF
 cases u<;>simp only[Qk,Kv]<;>rfl
end
def mW (ops:Array Oper) (s:List AV) (o:Oper):Option Bool:=
 match o.guard with
 |none=>some true
 | some (j,want)=>match(ops[j]?).bind (·.dst) with
  |some d=>match s[d]? with
   |some (.bool b)=>some (b==want)
   |some (.tup _)=>some false
   |_=>none
  |none=>none
variable {R:Type}
def Ej (P:Program) (G:Nat->Option (List AV)) (H:Hand R) (ops:Array Oper) (K:Fr->St->R):List Oper->Fr->St->R
  |[],fr,st=>K fr st
  | o ::rest,fr,st=>
    match mW ops fr.s o with
    |none=>H.fail
    | some c=>if c then
        match Rz P G fr.s st.hp st.nx o with
        |none=>H.fail
        |some (.val v u)=>aF8 o.op v fun v'=>Ui fr o.dst v' fun fr'=>appF st u fun st'=>Ej P G H ops K rest fr' st'
        |some (.skip u)=>Ui fr o.dst uu fun fr'=>appF st u fun st'=>Ej P G H ops K rest fr' st'
        |some (.call f args)=>H.call f args (fun v st'=>Ui fr o.dst v fun fr'=>Ej P G H ops K rest fr' st') st
        |some (.yield key args)=>H.yield key args (fun v st'=>Ui fr o.dst v fun fr'=>Ej P G H ops K rest fr' st') st
        |some (.branch l)=>H.both (l.map fun x=>Ui fr o.dst x.1 fun fr'=>Ej P G H ops K rest fr' (st.app x.2))
      else Ui fr o.dst uu fun fr'=>Ej P G H ops K rest fr' st
def fG (P:Program) (G:Nat->Option (List AV)) (H:Hand R):Code->dU R->Fr->St->R
 | .skip,K,fr,st=>K .normal fr st
 | .region _ ops draw,K,fr,st=>if draw then H.draw ops (K .normal) fr st else Ej P G H ops (K .normal) ops.toList fr st
 | .seq a b,K,fr,st=>fG P G H a (fun x fr st=>match x with
   | .normal=>fG P G H b K fr st
   |x=>K x fr st) fr st
 | .cond c a b,K,fr,st=>match ev P G fr.s 0 c with
  | .bool q=>if q then fG P G H a K fr st else fG P G H b K fr st
  |_=>H.fail
 | .block id c,K,fr,st=>fG P G H c (fun x fr st=>match x with
   | .exit id'=>if id'=id then K .normal fr st else K (.exit id') fr st
   |x=>K x fr st) fr st
 | .loop c,K,fr,st=>H.loop c K fr st
 | .rangeFunc f ps assign body,K,fr,st=>H.rangeF f ps assign body K fr st
 | .exit id,K,fr,st=>K (.exit id) fr st
 | .label _,K,fr,st=>K .normal fr st
 | .goto _,_,_,_=>H.fail
 | .scope c,K,fr,st=>fG P G H c (fun x fr st=>match x with
   | .goto _=>H.fail
   |x=>K x fr st) fr st
 | .ret,K,fr,st=>K .ret fr st
 | .refuse _,_,_,_=>H.fail
theorem Rt {F:Fence} {n:Nat} {Q:Exit->Act->World->Prop} {a:Act} {w:World} {c:Code} (h:c.wpIn F n P (fun e a w=>match e with
  | .goto _=>False
  |e=>Q e a w) a w):(Code.scope c).wpIn F n P Q a w:=by
 intro b k cs hro hb hr
 have h0:(lone (b.atR a (.code (.scope c)::k)) cs w).fenced P F:=fenced_calm hb hr rfl
 have s0:step P (lone (b.atR a (.code (.scope c)::k)) cs w)= .next (lone (b.atR a (.code c:: .inScope c::k)) cs w):=step_lone_go (by simp [stepG,stepG.exec,Frame.atR])
 obtain⟨e,a₁,w₁,hq,harr⟩:=h b (.inScope c::k) cs hro hb hr
 have s1:step P (lone (b.atR a₁ (.inScope c::k)) cs w₁)= .next (lone (b.atR a₁ k) cs w₁):=step_lone_go (by simp [stepG,stepG.exec,Frame.atR])
 cases e with
 |normal=>exact⟨.normal,a₁,w₁,hq,.head h0 s0 (StepsIn.trans harr (.one (fenced_calm hb hr rfl) s1))⟩
 | exit id=>
  have hx:exitTo id (.inScope c::k)=exitTo id k:=by simp [exitTo]
  exact⟨.exit id,a₁,w₁,hq,fun k' hk=> .head h0 s0 (harr.1 k' (by rw[hx];exact hk)),
   fun hr' hk=>let⟨k₁,h1,h2⟩:=harr.2 hr' (by rw[hx];exact hk);⟨k₁,h1,.head h0 s0 h2⟩⟩
 |goto l=>exact hq.elim
 |ret=>exact⟨_,a₁,w₁,hq,.of_steps (.one h0 s0) harr⟩
 |panic ch=>exact⟨_,a₁,w₁,hq,.of_steps (.one h0 s0) harr⟩
 |outgrown=>exact⟨_,a₁,w₁,hq,.of_steps (.one h0 s0) harr⟩
structure vU (G:Nat->Option (List AV)) (W:World) (M:Mem) (fr:Fr) (st:St) (a:Act) (w:World):Prop where
 inv:Inv G M (· <st.nx) st.hp W w
 rs:oL M fr.s a.tmps
 defers:a.defers.length=fr.marks.length/\ ∀(i:Nat) key,fr.marks[i]?=some key-> ∃l,M.L key=some l/\a.defers[i]?=some {target:= .collected l,args:= #[]}
def Post (G:Nat->Option (List AV)) (W:World) (M0:Mem) (K:AX->Fr->St->Prop):Exit->Act->World->Prop:=
 fun e a w=> ∃M fr st x,M0.le M/\vU G W M fr st a w/\AX.toExit x=e/\K x fr st
theorem Post.mono {W:World} {M0 M1:Mem} (h:M0.le M1) {K K':AX->Fr->St->Prop} (hK: ∀x fr st,K x fr st->K' x fr st) {e:Exit} {a:Act} {w:World} (hp:Post G W M1 K e a w):Post G W M0 K' e a w:=by
 obtain⟨M,fr,st,x,h1,h2,h3,h4⟩:=hp
 exact⟨M,fr,st,x,Mem.le_trans h h1,h2,h3,hK _ _ _ h4⟩
structure Free (F:Fence):Prop where
 fn: ∀f,F.fn f
 depth:F.depth=none
def aP (F:Fence) (P:Program) (G:Nat->Option (List AV)) (W:World) (f:FuncId) (args:List AV) (K:AV->St->Prop) (st:St):Prop:=
  ∀ M w vs,Inv G M (· <st.nx) st.hp W w->bP M.rel args vs.toList->(∃fn,P.funcs[f]?=some fn/\fn.body.isSome=true/\fn.name≠ "runtime.NumGoroutine")/\
    ∀n,CallsIn F n P f vs w fun e w'=> ∃M' v av st',e= .returned v/\M.le M'/\Inv G M' (· <st'.nx) st'.hp W w'/\M'.rel av v/\K av st'
def vV (F:Fence) (P:Program) (G:Nat->Option (List AV)) (W:World) (c:Code) (K:AX->Fr->St->Prop) (fr:Fr) (st:St):Prop:=
 ∀M a w n,vU G W M fr st a w->c.wpIn F n P (Post G W M K) a w
def aLk (P:Program) (G:Nat->Option (List AV)) (W:World) (f:FuncId) (args:List AV) (K:AV->St->Prop) (st:St):Prop:=
 (∃fn,P.funcs[f]?=some fn/\fn.body=none)/\
 ∀M w vs,Inv G M (· <st.nx) st.hp W w->bP M.rel args vs.toList-> ∃v w' M' av st',(callFunc f vs).run P w= .ok (.value v) w'/\M.le M'/\Inv G M' (· <st'.nx) st'.hp W w'/\M'.rel av v/\K av st'
def qY (F:Fence) (P:Program) (G:Nat->Option (List AV)) (W:World) (f:FuncId) (args:List AV) (K:AV->St->Prop) (st:St):Prop:=aP F P G W f args K st\/aLk P G W f args K st
structure yE (F:Fence) (P:Program) (G:Nat->Option (List AV)) (W:World) (ok:R->Prop) (H:Hand R):Prop where
  fail: ¬ok H.fail
  call: ∀f args K st,ok (H.call f args K st)->qY F P G W f args (fun v st=>ok (K v st)) st
  loop: ∀c K fr st,ok (H.loop c K fr st)->vV F P G W (.loop c) (fun x fr st=>ok (K x fr st)) fr st
  yield: ∀key args K st,ok (H.yield key args K st)-> ∀M w vs,Inv G M (· <st.nx) st.hp W w->bP M.rel args vs.toList-> ∀l,M.L key=some l->
    ∃ f tmps assign body,(Instr.yield l vs).run P w= .ok (.round l f tmps assign body) w/\
      ∀n,RoundIn F n P l f tmps assign body w fun e w'=> ∃M' v av st',e= .returned v/\M.le M'/\Inv G M' (· <st'.nx) st'.hp W w'/\M'.rel av v/\ok (K av st')
  rangeF: ∀f ps assign body K fr st,ok (H.rangeF f ps assign body K fr st)->vV F P G W (.rangeFunc f ps assign body) (fun x fr st=>ok (K x fr st)) fr st
  draw: ∀id ops K fr st,ok (H.draw ops K fr st)->vV F P G W (.region id ops true) (fun x fr st=>match x with| .normal=>ok (K fr st)|_=>False) fr st
  both: ∀l,ok (H.both l)-> ∀x∈l,ok x
theorem xQ {M:Mem} {ops:Array Oper} {s:List AV} {tmps:Array Value} (rs:oL M s tmps) {o:Oper} {c:Bool} (h:mW ops s o=some c):Region.wanted o (yielded ops tmps)=c:=by
 unfold mW at h
 unfold Region.wanted
 split at h
 ·simp only[Option.some.injEq] at h;subst h;rename_i hg;rw[hg]
 ·rename_i j want hg
  rw[hg]
  split at h
  ·rename_i d hd
   split at h
   ·rename_i b hb
    simp only[Option.some.injEq] at h;subst h
    obtain⟨h1,h2⟩:=List.getElem?_eq_some_iff.1 hb
    have h1':d<tmps.size:=by rw[rs.1];exact h1
    have:=rs.2 d h1 h1'
    rw[h2] at this
    have hv:tmps[d]= .bool b:=by
     have: ∀v,M.rel (.bool b) v->v= .bool b:=fun v hv=>by cases hv;rfl
     exact this _ (by assumption)
    simp only[yielded,hd,Option.bind_some,Array.getElem?_eq_getElem h1',hv]
    cases b<;>cases want<;>rfl
   ·rename_i ts hb
    simp only[Option.some.injEq] at h;subst h
    obtain⟨h1,h2⟩:=List.getElem?_eq_some_iff.1 hb
    have h1':d<tmps.size:=by rw[rs.1];exact h1
    have:=rs.2 d h1 h1'
    rw[h2] at this
    have hv: ∃cs,tmps[d]= .tuple cs:=by
     have: ∀v,M.rel (.tup ts) v-> ∃cs,v= .tuple cs:=fun v hv=>by cases hv;exact⟨_,rfl⟩
     exact this _ (by assumption)
    obtain⟨cs,hv⟩:=hv
    simp only[yielded,hd,Option.bind_some,Array.getElem?_eq_getElem h1',hv]
    cases want<;>rfl
   ·cases h
  ·cases h
theorem vU.put {W:World} {M:Mem} {fr:Fr} {st:St} {a:Act} {w:World} (sim:vU G W M fr st a w) {M':Mem} (hle:M.le M') {st':St} {w':World} (inv':Inv G M' (· <st'.nx) st'.hp W w') (d:Option Tmp) {v:AV} {u:Value} (hv:M'.rel v u):
  vU G W M' (fr.put d v) st' (a.put d u) w':=by
 have rs:=sim.rs.mono hle
 obtain⟨d1,d2⟩:=sim.defers
 have hd: ∀(i:Nat) key,fr.marks[i]?=some key-> ∃l,M'.L key=some l/\a.defers[i]?=some {target:= .collected l,args:= #[]}:=fun i key h=>by
  obtain⟨l,h1,h2⟩:=d2 i key h;exact⟨l,hle.L _ _ h1,h2⟩
 cases d with
 |none=>exact⟨inv',rs,⟨d1,hd⟩⟩
 |some d=>exact⟨inv',rs.set d hv,⟨d1,hd⟩⟩
theorem Ql {nx:Nat}: ∀k,lD (· <nx) nx k->k<nx+1:=by
 intro k h
 rcases h with h|h
 ·exact Nat.lt_succ_of_lt h
 ·omega
theorem aAm {F:Fence} (hF:Free F) {W:World} {ok:R->Prop} {H:Hand R} (hH:yE F P G W ok H) {ops:Array Oper} {K:Fr->St->R} {Q:Exit->Act->World->Prop} {M0:Mem} {n:Nat}
  (hQ: ∀M fr st a w,M0.le M->vU G W M fr st a w->ok (K fr st)->Q .normal a w): ∀(l:List Oper) (k:Nat),(∀j,l[j]?=ops[k+j]?)-> ∀(fr:Fr) (st:St) (M:Mem) (a:Act) (w:World),M0.le M->vU G W M fr st a w->
   ok (Ej P G H ops K l fr st)->wpOpsIn F n P ops Q (List.range' k l.length) a w
 |[],k,_,fr,st,M,a,w,hM,sim,h=>hQ M fr st a w hM sim h
 | o ::rest,k,hl,fr,st,M,a,w,hM,sim,h=>by
  have ho:ops[k]?=some o:=by simpa using(hl 0).symm
  have hrest: ∀j,rest[j]?=ops[k+1+j]?:=fun j=>by
   have:=hl (j+1)
   rw[show k+1+j=k+(j+1) by omega,<-this];simp
  have ih:=aAm hF hH (n:=n) hQ rest (k+1) hrest
  simp only[List.length_cons,List.range'_succ,wpOpsIn,ho]
  simp only[Ej,aJd,aDj,aJe] at h
  split at h
  ·exact absurd h hH.fail
  ·rename_i c hc
   have hw:=xQ sim.rs hc
   cases c with
   |false=>
    simp only[Bool.false_eq_true,if_false] at h
    rw[if_neg (by rw[hw];simp)]
    exact⟨fun f _=>hF.fn f,ih _ _ M _ _ hM (sim.put M.le_refl sim.inv o.dst aAj) h⟩
   | true=>
    simp only[if_true] at h
    rw[if_pos hw]
    refine⟨fun f _=>hF.fn f,?_⟩
    have hn: ¬st.nx<st.nx:=Nat.lt_irrefl _
    cases hres:Rz P G fr.s st.hp st.nx o with
    |none=>rw[hres] at h;exact absurd h hH.fail
    | some res=>
     rw[hres] at h
     have hnd: ∀c,o.op≠ .defer c:=by
      intro c hc'
      obtain⟨dst,op,ty,pos,after,guard⟩:=o
      simp only at hc'
      subst hc'
      simp [Rz,jM,Ah,nS,Ak,Dv] at hres
     have hr:=aUt (P:=P) sim.inv hn sim.rs hres
     rw[Oper.semAt_eq _ _ _ hnd]
     cases res with
     |val v u=>
      obtain⟨v',w',M',h1,h2,h3,h4⟩:=hr
      rw[h1]
      refine ih _ _ M' _ _ (Mem.le_trans hM h2) (sim.put h2 ?_ o.dst h4) h
      have:(st.app u).hp=lQ st.hp u:=Dn _ _ _
      rw[this]
      exact h3.more Ql
     |skip u=>
      obtain⟨w',M',h1,h2,h3⟩:=hr
      rw[h1]
      refine ih _ _ M' _ _ (Mem.le_trans hM h2) (sim.put h2 ?_ o.dst aAj) h
      have:(st.app u).hp=lQ st.hp u:=Dn _ _ _
      rw[this]
      exact h3.more Ql
     | call f args=>
      obtain⟨vs,h1,h2⟩:=hr
      rcases hH.call _ _ _ _ h with hc|⟨_,hc⟩
      ·obtain⟨⟨fn,g1,g2,g3⟩,hcall⟩:=hc M w vs sim.inv h1
       rw[h2,Ox g1 g2 g3,Oper.uponIn_enter]
       refine⟨fun hd=>by rw[hF.depth] at hd;simp at hd,(hcall (n - 1)).mono ?_⟩
       rintro e w' ⟨M',v,av,st',rfl,k1,k2,k3,k4⟩
       exact ih _ _ M' _ _ (Mem.le_trans hM k1) (sim.put k1 k2 o.dst k3) k4
      ·obtain⟨v,w',M',av,st',k0,k1,k2,k3,k4⟩:=hc M w vs sim.inv h1
       rw[h2,k0]
       exact ih _ _ M' _ _ (Mem.le_trans hM k1) (sim.put k1 k2 o.dst k3) k4
     |yield key args=>
      obtain⟨l,vs,hL,h1,h2⟩:=hr
      obtain⟨f,tmps,assign,body,g1,g2⟩:=hH.yield _ _ _ _ h M w vs sim.inv h1 l hL
      rw[h2,g1,Oper.uponIn_round]
      refine⟨fun hd=>by rw[hF.depth] at hd;simp at hd,(g2 (n - 1)).mono ?_⟩
      rintro e w' ⟨M',v,av,st',rfl,k1,k2,k3,k4⟩
      exact ih _ _ M' _ _ (Mem.le_trans hM k1) (sim.put k1 k2 o.dst k3) k4
     |branch l=>
      obtain⟨v,u,hmem,v',w',M',h1,h2,h3,h4⟩:=hr
      rw[h1]
      have hx:=hH.both _ h _ (List.mem_map.2 ⟨(v,u),hmem,rfl⟩)
      refine ih _ _ M' _ _ (Mem.le_trans hM h2) (sim.put h2 ?_ o.dst h4) hx
      have:(st.app u).hp=lQ st.hp u:=Dn _ _ _
      rw[this]
      exact h3.more Ql
theorem rM {F:Fence} (hF:Free F) {W:World} {ok:R->Prop} {H:Hand R} (hH:yE F P G W ok H): ∀(c:Code) (K:dU R) (fr:Fr) (st:St),ok (fG P G H c K fr st)->
  vV F P G W c (fun x fr st=>ok (K x fr st)) fr st:=by
 intro c
 induction c with
 |skip=>intro K fr st h M a w n sim;exact wpIn_skip ⟨M,fr,st,.normal,M.le_refl,sim,rfl,h⟩
 | region id ops draw=>
  intro K fr st h M a w n sim
  cases draw with
  |true=>
   simp only[fG,if_true] at h
   refine wpIn_mono (hH.draw id ops _ fr st h M a w n sim) ?_
   intro e a w hp
   refine Post.mono M.le_refl (fun x fr st hx=>?_) hp
   cases x<;>first|exact hx|exact hx.elim
  |false=>
   simp only[fG,Bool.false_eq_true,if_false] at h
   refine wpIn_region ?_
   have:=aAm hF hH (M0:=M) (n:=n) (Q:=Post G W M fun x fr st=>ok (K x fr st)) (ops:=ops) (fun M' fr st a w hM sim hk=>⟨M',fr,st,.normal,hM,sim,rfl,hk⟩) ops.toList 0 (fun j=>by simp) fr st M a w M.le_refl sim h
   rw[List.range_eq_range']
   simpa using this
 |seq a b iha ihb=>
  intro K fr st h M ac w n sim
  simp only[fG] at h
  refine wpIn_seq (wpIn_mono (iha _ fr st h M ac w n sim) ?_)
  rintro e a' w' ⟨M',fr',st',x,h1,h2,rfl,h4⟩
  cases x with
  |normal=>exact wpIn_mono (ihb _ fr' st' h4 M' a' w' n h2) fun e a w hp=>Post.mono h1 (fun _ _ _ h=>h) hp
  |exit id=>exact⟨M',fr',st',.exit id,h1,h2,rfl,h4⟩
  |goto l=>exact⟨M',fr',st',.goto l,h1,h2,rfl,h4⟩
  |ret=>exact⟨M',fr',st',.ret,h1,h2,rfl,h4⟩
 | cond c a b iha ihb=>
  intro K fr st h M ac w n sim
  simp only[fG] at h
  have hc:=fA (P:=P) sim.inv sim.rs 0 c
  split at h
  ·rename_i q hq
   rw[hq] at hc
   have hv:ac.eval c= .bool q:=by
    have: ∀v,M.rel (.bool q) v->v= .bool q:=fun v hv=>by cases hv;rfl
    exact this _ hc
   refine wpIn_cond hv ?_
   cases q with
   |true=>simp only[if_true] at h ⊢;exact iha K fr st h M ac w n sim
   |false=>simp only[Bool.false_eq_true,if_false] at h ⊢;exact ihb K fr st h M ac w n sim
  ·exact absurd h hH.fail
 | block id c ih=>
  intro K fr st h M ac w n sim
  simp only[fG] at h
  refine wpIn_block (wpIn_mono (ih _ fr st h M ac w n sim) ?_)
  rintro e a' w' ⟨M',fr',st',x,h1,h2,rfl,h4⟩
  cases x with
  |normal=>exact⟨M',fr',st',.normal,h1,h2,rfl,h4⟩
  |exit id'=>
   simp only at h4
   simp only[AX.toExit,Exit.inBlock]
   split
   ·rename_i e;rw[if_pos e] at h4;exact⟨M',fr',st',.normal,h1,h2,rfl,h4⟩
   ·rename_i e;rw[if_neg e] at h4;exact⟨M',fr',st',.exit id',h1,h2,rfl,h4⟩
  |goto l=>exact⟨M',fr',st',.goto l,h1,h2,rfl,h4⟩
  |ret=>exact⟨M',fr',st',.ret,h1,h2,rfl,h4⟩
 |loop c _=>intro K fr st h;exact hH.loop c K fr st h
 |rangeFunc f ps assign body _ _=>intro K fr st h;exact hH.rangeF f ps assign body K fr st h
 |exit id=>intro K fr st h M a w n sim;exact wpIn_exit ⟨M,fr,st,.exit id,M.le_refl,sim,rfl,h⟩
 |label l=>intro K fr st h M a w n sim;exact wpIn_label ⟨M,fr,st,.normal,M.le_refl,sim,rfl,h⟩
 |goto l=>intro K fr st h;exact absurd h hH.fail
 |scope c ih=>
  intro K fr st h M ac w n sim
  simp only[fG] at h
  refine Rt (wpIn_mono (ih _ fr st h M ac w n sim) ?_)
  rintro e a' w' ⟨M',fr',st',x,h1,h2,rfl,h4⟩
  cases x with
  |normal=>exact⟨M',fr',st',.normal,h1,h2,rfl,h4⟩
  |exit id'=>exact⟨M',fr',st',.exit id',h1,h2,rfl,h4⟩
  |goto l=>exact absurd h4 hH.fail
  |ret=>exact⟨M',fr',st',.ret,h1,h2,rfl,h4⟩
 |ret=>intro K fr st h M a w n sim;exact wpIn_ret ⟨M,fr,st,.ret,M.le_refl,sim,rfl,h⟩
 |refuse s=>intro K fr st h;exact absurd h hH.fail
end Go.Proofs.Pv
namespace Go.Proofs.Pv
open Go
variable {P:Program} {G:Nat->Option (List AV)} {R:Type}
def ares (P:Program) (g:Hp) (s:List AV):ResultVar->Option AV
 | .tmp t=>some (s.getD t .ud)
 | .cell a t=>Jv P g t (s.getD a .ud)
def Jc (P:Program) (g:Hp) (s:List AV):List ResultVar->Option (List AV)
 |[]=>some []
 |r::rs=>match ares P g s r,Jc P g s rs with
  |some v,some vs=>some (v::vs)
  |_,_=>none
def uQ (P:Program) (g:Hp) (s:List AV) (rs:List ResultVar):Option AV:=
 match Jc P g s rs with
 |some [v]=>some v
 |some vs=>some (.tup vs)
 |none=>none
def uS:List Nat->St->Option St
 |[],st=>some st
 |k::ks,st=>match st.hp k with
  |some (.dfd true)=>uS ks ⟨hset st.h k (.dfd false),st.nx⟩
  |_=>none
def mP (P:Program) (H:Hand R) (rs:List ResultVar) (fin:AV->St->AV×St) (K:AV->St->R):dU R:=fun x fr st=>
 match x with
 | .normal| .ret=>match uS fr.marks st with
  | some st'=>match uQ P st'.hp fr.s rs with
   |some v=>match fin v st' with
    |(v',st'')=>K v' st''
   |none=>H.fail
  |none=>H.fail
 |_=>H.fail
def uG (n:Nat) (args:List AV):Fr:=⟨args++List.replicate (n - args.length) .ud,[]⟩
def Rk (v:AV) (st:St):AV×St:=
 match v with
 | .msl key off n k=>match st.hp key with
  |some (.cells cs)=>if off=0/\n*k<=cs.length/\0<k/\cs.all AV.pure=true then(.sl k (chunks (!(Nat.beq k 1)) k n cs) .none,⟨hdel st.h key,st.nx⟩) else(v,st)
  |_=>(v,st)
 |_=>(v,st)
def Bq (P:Program) (G:Nat->Option (List AV)) (H:Hand R) (fin:List AV->Nat->AV->St->AV×St) (f:FuncId) (args:List AV) (K:AV->St->R) (st:St):R:=
 match P.funcs[f]? with
 |some fn=>match fn.body with
  |some c=>fG P G H c (mP P H fn.results.toList (fin args st.nx) K) (uG fn.ntmps args) st
  |none=>H.fail
 |none=>H.fail
def aEe (tmps:Array Value):ResultVar->Sem Value
 | .tmp t=>pure (tmps.getD t undef)
 | .cell a t=>do loadVar t (<-asAddr (tmps.getD a undef))
theorem aJ3 (fn:Func) (tmps:Array Value):results fn tmps=(do let vs<-fn.results.mapM (aEe tmps);pure (if h:vs.size=1 then vs[0] else .tuple vs)):=by
 unfold results
 have:(fun x:ResultVar=>(match x with
  | .tmp t=>pure (tmps.getD t undef)
  | .cell a t=>do loadVar t (<-asAddr (tmps.getD a undef)):Sem Value))=aEe tmps:=by funext x;cases x<;>rfl
 rw[<-this]
 rfl
theorem aJ4 {t:TypeId} {va u:Value} {w:World} (h:(Instr.loadAt t va).run P w= .ok u w):((do loadVar t (<-asAddr va)):Sem Value).run P w= .ok u w:=by
 cases va<;>simp [Instr.loadAt,Instr.sureAddr] at h
 rename_i A
 cases A<;>simp at h
 simpa [asAddr] using h
theorem Lh {M:Mem} {al:Nat->Prop} {hp:Hp} {W w:World} (inv:Inv G M al hp W w) {s:List AV} {tmps:Array Value} (rs:oL M s tmps): ∀(l:List ResultVar) (vs:List AV),Jc P hp s l=some vs->
  ∃us:List Value,(l.mapM (aEe tmps)).run P w= .ok us w/\bP M.rel vs us
 |[],vs,h=>by simp [Jc] at h;subst h;exact⟨[],by simp,rfl,fun i a v h=>by simp at h⟩
 | r ::l,vs,h=>by
  unfold Jc at h
  split at h
  ·rename_i v vs' h1 h2
   simp only[Option.some.injEq] at h;subst h
   obtain⟨us,g1,g2⟩:=Lh inv rs l vs' h2
   have key: ∃u,(aEe tmps r).run P w= .ok u w/\M.rel v u:=by
    cases r with
    |tmp t=>
     simp only[ares,Option.some.injEq] at h1;subst h1
     exact⟨_,rfl,rs.get t⟩
    |cell a t=>
     simp only[ares] at h1
     obtain⟨u,k1,k2⟩:=aCd (P:=P) inv (rs.get a) h1
     exact⟨u,aJ4 k1,k2⟩
   obtain⟨u,k1,k2⟩:=key
   refine⟨u::us,?_,by simp [g2.1],fun i a b e1 e2=>?_⟩
   ·rw[List.mapM_cons]
    simp only[Sem.run_bind,k1,Result.andThen_ok,g1,Sem.run_pure]
   ·cases i with
    |zero=>simp at e1 e2;subst e1;subst e2;exact k2
    |succ i=>exact g2.2 i a b (by simpa using e1) (by simpa using e2)
  ·cases h
theorem aG9 {M:Mem} {al:Nat->Prop} {hp:Hp} {W w:World} (inv:Inv G M al hp W w) {s:List AV} {tmps:Array Value} (rs:oL M s tmps) {fn:Func} {v:AV} (h:uQ P hp s fn.results.toList=some v):
  ∃u,(results fn tmps).run P w= .ok u w/\M.rel v u:=by
 unfold uQ at h
 cases hl:Jc P hp s fn.results.toList with
 |none=>rw[hl] at h;cases h
 | some vs=>
  obtain⟨us,h1,h2⟩:=Lh inv rs _ _ hl
  have hrun:(results fn tmps).run P w= .ok (if h:us.toArray.size=1 then us.toArray[0] else .tuple us.toArray) w:=by
   rw[aJ3,Array.mapM_eq_mapM_toList]
   simp only[Sem.run_bind,Sem.run_map,h1,Result.andThen_ok,Sem.run_pure]
  rw[hrun]
  rw[hl] at h
  match vs,us,h2,h with
  |[a],[u],h2,h=>
   simp only[Option.some.injEq] at h;subst h
   exact⟨u,by simp,h2.2 0 _ _ rfl rfl⟩
  |[],us,h2,h=>
   simp only[Option.some.injEq] at h;subst h
   have:us=[]:=List.eq_nil_of_length_eq_zero h2.1.symm
   subst this
   exact⟨_,rfl,.tup (by simp) (fun i h=>by simp at h)⟩
  |a::b::vs,us,h2,h=>
   simp only[Option.some.injEq] at h;subst h
   have hne: ¬us.toArray.size=1:=by have:=h2.1;simp at this ⊢;omega
   rw[dif_neg hne]
   exact⟨_,rfl,.tup (by simpa using h2.1.symm) (fun i h h'=>by show M.rel _ _;simpa using h2.get i h (by simpa using h'))⟩
  |[a],[],h2,_=>simp [bP] at h2
  |[a],_::_::_,h2,_=>simp [bP] at h2
def aJ5 (G:Nat->Option (List AV)) (fin:AV->St->AV×St):Prop:=
 ∀ {W:World} {M:Mem} {w:World} {v:AV} {u:Value} {st:St},Inv G M (· <st.nx) st.hp W w->M.rel v u-> ∃M',M.le M'/\Inv G M' (· < (fin v st).2.nx) (fin v st).2.hp W w/\M'.rel (fin v st).1 u
theorem Fa {a:Bool} {k:Nat}: ∀(n:Nat) (cs:List AV),(chunks a k n cs).length=n
 |0,_=>rfl
 |n+1,cs=>by simp only[chunks,List.length_cons,Fa n]
theorem zV {k:Nat} (hk:0<k): ∀(n:Nat) (cs:List AV),n*k<=cs.length->(∀x∈cs,x.pure=true)->
  (∀r∈chunks (!(Nat.beq k 1)) k n cs,r.cells.length=k/\ ∀x∈r.cells,x.pure=true)/\(chunks (!(Nat.beq k 1)) k n cs).flatMap AV.cells=cs.take (n*k)
 |0,cs,_,_=>by simp [chunks]
 | n +1,cs,hl,hp=>by
  have hl':n*k+k<=cs.length:=by rw[<-Nat.succ_mul];exact hl
  obtain⟨h1,h2⟩:=zV hk n (cs.drop k) (by simp;omega) (fun x hx=>hp x (List.mem_of_mem_drop hx))
  have hrow:(if(!(Nat.beq k 1))=true then AV.agg (cs.take k) else cs.headD .ud).cells=cs.take k:=by
   by_cases e:k=1
   ·subst e
    match cs,hl',hp with
    |[],hl',_=>simp at hl'
    |c::cs,_,hp=>
     have hc:=AV.one_of_pure (hp c (by simp))
     simp only[show Nat.beq 1 1=true from rfl,Bool.not_true,Bool.false_eq_true,if_false,List.headD_cons,List.take_succ_cons,List.take_zero]
     cases c<;>first|rfl|simp [AV.one] at hc
   ·have hb:Nat.beq k 1=false:=by
     cases h:Nat.beq k 1 with
     |false=>rfl
     |true=>exact absurd (Nat.eq_of_beq_eq_true h) e
    simp [hb,AV.cells]
  simp only[chunks]
  refine⟨fun r hr=>?_,?_⟩
  ·rcases List.mem_cons.1 hr with rfl|hr
   ·rw[hrow]
    exact⟨by simp;omega,fun x hx=>hp x (List.mem_of_mem_take hx)⟩
   ·exact h1 r hr
  ·rw[List.flatMap_cons,hrow,h2,Nat.succ_mul,Nat.add_comm,List.take_add]
theorem aU4:aJ5 G Rk:=by
 intro W M w v u st inv hv
 unfold Rk
 split
 ·rename_i key off n k
  split
  ·rename_i cs hk
   split
   ·rename_i hc
    obtain⟨rfl,hle,hk0,hpure⟩:=hc
    rw[List.all_eq_true] at hpure
    obtain⟨b,ob,g1,g2,g3,g4,g5⟩:=inv.live key _ hk
    cases hv with
    | @msl _ _ _ _ _ _ b' c z hL hT hz hcap=>
    have hb:b'=b:=by simpa [Mem.blockOf,aI.isTok,hL] using g1
    subst hb
    cases ob<;>simp only[dC] at g3
    rename_i cur el fr
    obtain⟨rfl,k1,k2,_⟩:=g3
    have hIb: ∀o,M.I b' o=none:=g5 rfl
    have hle1:M.le (M.addI b' 0 (cur.toList.take cs.length)):=Mem.le_addI g4 fun o _ _=>hIb o
    have hlen:(cur.toList.take cs.length).length=cs.length:=by simp;omega
    have hrelI: ∀j (hj:j<cs.length),∃x,(M.addI b' 0 (cur.toList.take cs.length)).I b' j=some x/\aQ M.I kC noT cs[j] x:=by
     intro j hj
     have hjc:j<cur.size:=by omega
     refine⟨cur[j],?_,(k2 j hj hjc).pure (hpure _ (List.getElem_mem hj))⟩
     simp only[Mem.addI]
     rw[if_pos ⟨trivial,by omega,by rw[hlen];omega⟩,Nat.sub_zero,List.getElem?_take,if_pos hj]
     simp [hjc]
    refine⟨_,hle1,?_,?_⟩
    ·show Inv G _ (· <st.nx) (hget (hdel st.h key)) W w
     rw[qB]
     constructor
     ·intro d o x hx
      simp only[Mem.addI] at hx
      split at hx
      ·rename_i hd
       obtain⟨rfl,_,ho⟩:=hd
       rw[nM g2]
       rw[Nat.sub_zero,List.getElem?_take] at hx
       split at hx
       ·simpa using hx
       ·cases hx
      ·exact inv.imm d o x hx
     ·exact inv.far
     ·exact inv.os
     ·exact inv.tape
     ·exact inv.out
     ·exact inv.fresh
     ·intro q bk hq
      by_cases e:q=key
      ·subst e;simp [dD] at hq
      ·simp only[dD,e,if_false] at hq
       obtain⟨b2,ob2,r1,r2,r3,r4,r5⟩:=inv.live q bk hq
       have hne:b2≠b':=fun eb=>by subst eb;exact e (inv.inj q key bk _ b2 hq hk r1 g1)
       refine⟨b2,ob2,r1,r2,r3.grow hle1 (fun ht b3 e3 z3 hT3 o ho=>?_),r4,fun ht o=>?_⟩
       ·cases bk<;>simp [aI.isTok] at ht
        cases ob2<;>simp only[dC] at r3
        obtain⟨_,b4,e4,z4,s1,_,_,s4⟩:=r3
        rw[hT3] at s1;cases s1
        have:b2=b3:=by simpa [Mem.blockOf,aI.isTok,hT3] using r1.symm
        subst this
        simp only[Mem.addI]
        rw[if_neg (by intro hc;exact hne hc.1)]
        exact s4 o ho
       ·simp only[Mem.addI]
        rw[if_neg (by intro hc;exact hne hc.1)]
        exact r5 ht o
     ·intro k1 k2 b1 b2 q h1 h2 h3 h4
      refine inv.inj k1 k2 b1 b2 q ?_ ?_ h3 h4
      ·simp only[dD] at h1;split at h1
       ·cases h1
       ·exact h1
      ·simp only[dD] at h2;split at h2
       ·cases h2
       ·exact h2
     ·intro g cells hg;exact aQ.mono0 hle1.I (inv.glob g cells hg) (fun _ _ h=>h) (fun _ _ h=>h)
     ·intros;trivial
    ·obtain⟨c1,c2⟩:=zV hk0 n cs hle hpure
     have hl:=Fa (a:=!(Nat.beq k 1)) (k:=k) n cs
     have key2:aQ (M.addI b' 0 (cur.toList.take cs.length)).I (M.addI b' 0 (cur.toList.take cs.length)).L (M.addI b' 0 (cur.toList.take cs.length)).T (.sl k (chunks (!(Nat.beq k 1)) k n cs) .none) (.slice (some ⟨b',0,none⟩) (chunks (!(Nat.beq k 1)) k n cs).length c):=by
      refine Fh (cs:=(cur.toList.take cs.length).take (n*k)) (fun r hr=>(c1 r hr).1) (fun r hr=>(c1 r hr).2) ?_ ?_ (by rw[hl];exact hcap) trivial
      ·rw[c2]
       refine bP.take ⟨hlen.symm,fun i a x h1 h2=>?_⟩ _
       obtain⟨hi,rfl⟩:=List.getElem?_eq_some_iff.1 h1
       obtain⟨y,e1,e2⟩:=hrelI i hi
       simp only[Mem.addI] at e1
       rw[if_pos ⟨trivial,by omega,by rw[hlen];omega⟩,Nat.sub_zero,h2] at e1
       simp only[Option.some.injEq] at e1
       subst e1
       exact aQ.mono0 hle1.I e2 (fun _ _ h=>h) (fun _ _ h=>h)
      ·intro q hq
       have hq':q<cs.length:=by simp at hq;omega
       simp only[Mem.addI]
       rw[if_pos ⟨trivial,by omega,by rw[hlen];omega⟩,Nat.sub_zero]
       rw[List.getElem_take,List.getElem?_eq_getElem]
     rw[hl] at key2
     exact key2
   ·exact⟨M,M.le_refl,inv,hv⟩
  ·exact⟨M,M.le_refl,inv,hv⟩
 ·exact⟨M,M.le_refl,inv,hv⟩
theorem Dx {F:Fence} {n:Nat} {fn:Func} {tmps:Array Value} {Q:Ending->World->Prop} {W:World} {s:List AV} {rs:List ResultVar} (hrs:rs=fn.results.toList) {M:Mem}: ∀(marks:List Nat) (defers:List Deferred) (st st':St) (w:World) (v:AV),
  oL M s tmps->Inv G M (· <st.nx) st.hp W w->defers.length=marks.length->(∀(i:Nat) key,marks[i]?=some key-> ∃l,M.L key=some l/\defers[i]?=some {target:= .collected l,args:= #[]})->
  uS marks st=some st'->uQ P st'.hp s rs=some v->(∀u w',Inv G M (· <st'.nx) st'.hp W w'->M.rel v u->Q (.returned u) w')->LeavesInM F n P fn tmps Q defers .returning w
 |[],[],st,st',w,v,hrel,inv,_,_,h,hv,hQ=>by
  simp [uS] at h;subst h
  subst hrs
  obtain⟨u,h1,h2⟩:=aG9 inv hrel hv
  exact⟨u,h1,hQ u w inv h2⟩
 |[],_::_,_,_,_,_,_,_,hl,_,_,_,_=>by simp at hl
 |_::_,[],_,_,_,_,_,_,hl,_,_,_,_=>by simp at hl
 | k::ks,d::ds,st,st',w,v,hrel,inv,hl,hd,h,hv,hQ=>by
  unfold uS at h
  split at h
  ·rename_i hk
   obtain⟨l,hL,he⟩:=hd 0 k rfl
   simp only[List.getElem?_cons_zero,Option.some.injEq] at he
   subst he
   obtain⟨b,ob,g1,g2,g3,g4,g5⟩:=inv.live k _ hk
   have hb:b=l:=by simpa [Mem.blockOf,aI.isTok,hL] using g1.symm
   subst hb
   cases ob<;>simp only[dC] at g3
   subst g3
   have inv':=inv.turn (w':=w.putObj b (.deferred none)) (old:= .dfd true) (new:= .dfd false) (ob:= .deferred none) hk hL rfl rfl rfl rfl rfl
    (fun q hq=>by simp [World.putObj,Array.getElem?_setIfInBounds,Ne.symm hq]) (by simp [World.putObj,lt_of_heap g2]) rfl
   refine⟨by simp,.inl ⟨b,_,rfl,run_takeDeferred g2,?_⟩⟩
   refine Dx hrs ks ds ⟨hset st.h k (.dfd false),st.nx⟩ st' _ v hrel ?_ (by simpa using hl) (fun i key hi=>by simpa using hd (i+1) key (by simpa using hi)) h hv hQ
   have:St.hp ⟨hset st.h k (.dfd false),st.nx⟩=dD st.hp k (some (.dfd false)):=zH _ _ _
   rw[this];exact inv'
  ·cases h
theorem wR {F:Fence} (hF:Free F) (hr:F.round=none) (hname: ∀(f:Nat) (fn:Func),P.funcs[f]?=some fn->fn.name≠ "runtime.NumGoroutine") {W:World} {ok:R->Prop} {H:Hand R} (hH:yE F P G W ok H) {fin:List AV->Nat->AV->St->AV×St} (hfin: ∀args n,aJ5 G (fin args n)) {f:FuncId} {args:List AV} {K:AV->St->R} {st:St}
  (h:ok (Bq P G H fin f args K st)):aP F P G W f args (fun v st=>ok (K v st)) st:=by
 intro M w vs inv hargs
 unfold Bq at h
 split at h
 ·rename_i fn hfn
  split at h
  ·rename_i c hc
   refine⟨⟨fn,hfn,by simp [hc],hname f fn hfn⟩,fun n=>?_⟩
   refine callsIn_of_wp_marks hfn hc (hF.fn f) ?_ hr
   have sim:vU G W M (uG fn.ntmps args) st {tmps:=vs++Array.replicate (fn.ntmps - vs.size) undef,defers:=[]} w:=by
    refine⟨inv,?_,⟨rfl,fun i key hi=>by simp [uG] at hi⟩⟩
    have hsz:vs.size=args.length:=by have:=hargs.1;simp at this;exact this.symm
    refine⟨by simp [uG,hsz],fun i h1 h2=>?_⟩
    simp only[uG,List.length_append,List.length_replicate] at h1
    by_cases hi:i<args.length
    ·simp only[uG]
     rw[List.getElem_append_left hi,Array.getElem_append_left (by omega)]
     exact hargs.getA i hi (by omega)
    ·simp only[uG]
     rw[List.getElem_append_right (by omega)]
     simp only[List.getElem_replicate]
     exact .ud
   refine wpIn_mono (rM hF hH c _ _ _ h M _ w n sim) ?_
   rintro e a w' ⟨M',fr,st',x,hM,sim',rfl,hk⟩
   have leave:ok (mP P H fn.results.toList (fin args st.nx) K .ret fr st')->LeavesInM F n P fn a.tmps (fun e w'=> ∃M' v av st',e= .returned v/\M.le M'/\Inv G M' (· <st'.nx) st'.hp W w'/\M'.rel av v/\ok (K av st')) a.defers .returning w':=by
    intro hk
    simp only[mP] at hk
    split at hk
    ·rename_i st'' hst
     split at hk
     ·rename_i v hv
      refine Dx rfl fr.marks a.defers st' st'' w' v sim'.rs sim'.inv sim'.defers.1 sim'.defers.2 hst hv ?_
      intro u w2 inv2 hu
      obtain⟨M2,q1,q2,q3⟩:=hfin args st.nx inv2 hu
      exact⟨M2,u,_,_,rfl,Mem.le_trans hM q1,q2,q3,hk⟩
     ·exact absurd hk hH.fail
    ·exact absurd hk hH.fail
   cases x with
   |normal=>exact leave hk
   |ret=>exact leave hk
   |exit id=>exact absurd hk hH.fail
   |goto l=>exact absurd hk hH.fail
  ·exact absurd h hH.fail
 ·exact absurd h hH.fail
end Go.Proofs.Pv
namespace Go.Proofs.Pv
open Go
variable {P:Program} {G:Nat->Option (List AV)}
theorem aQ.pureV {I:jZ} {L:Lo} {T:To} {a:AV} {v:Value} (h:aQ I L T a v) (hp:a.pureV=true):aQ I kC noT a v:=by
 by_cases hg: ∃cs,a= .agg cs
 ·obtain⟨cs,rfl⟩:=hg
  cases h with
  |agg hs hr=>
   simp only[AV.pureV,List.all_eq_true] at hp
   exact .agg hs (fun i h h'=>(hr i h h').pure (hp _ (List.getElem_mem h)))
 ·have:a.pureV=a.pure:=by cases a<;>first|rfl|exact absurd ⟨_,rfl⟩ hg
  rw[this] at hp;exact h.pure hp
theorem aQ.pureR {I:jZ} {L:Lo} {T:To} {a:AV} {v:Value} (h:aQ I L T a v) (hp:a.pureR=true):aQ I kC noT a v:=by
 by_cases hg: ∃cs,a= .tup cs
 ·obtain⟨cs,rfl⟩:=hg
  cases h with
  |tup hs hr=>
   simp only[AV.pureR,List.all_eq_true] at hp
   exact .tup hs (fun i h h'=>(hr i h h').pureV (hp _ (List.getElem_mem h)))
 ·have:a.pureR=a.pureV:=by cases a<;>first|rfl|exact absurd ⟨_,rfl⟩ hg
  rw[this] at hp;exact h.pureV hp
theorem aQ.stripR {I:jZ} {L:Lo} {T:To} {a:AV} {v:Value} (h:aQ I L T a v):aQ I L T a.stripR v:=by
 by_cases hg: ∃cs,a= .tup cs
 ·obtain⟨cs,rfl⟩:=hg
  cases h with
  |tup hs hr=>exact .tup (by simpa using hs) (fun i h h'=>by simpa using(hr i (by simpa using h) h').strip)
 ·have:a.stripR=a.strip:=by cases a<;>first|rfl|exact absurd ⟨_,rfl⟩ hg
  rw[this];exact h.strip
def st0:St:=⟨[],0⟩
def PC (P:Program) (G:Nat->Option (List AV)) (f:FuncId) (args:List AV) (R:AV->Prop):Prop:=
  ∀ (F:Fence),Free F->F.round=none-> ∀(W:World) (M:Mem) (w:World) (vs:Array Value),M.L=kC->M.T=noT->Inv G M (fun _=>False) (fun _=>none) W w->bP (aQ M.I kC noT) args vs.toList->
    (∃fn,P.funcs[f]?=some fn/\fn.body.isSome=true/\fn.name≠ "runtime.NumGoroutine")/\
    ∀n,CallsIn F n P f vs w fun e w'=> ∃M' v av,e= .returned v/\M.le M'/\Inv G M' (fun _=>True) (fun _=>none) W w'/\aQ M'.I kC noT av v/\R av
theorem PC.mono {f:FuncId} {args:List AV} {R R':AV->Prop} (h:PC P G f args R) (hr: ∀v,R v->R' v):PC P G f args R':=by
 intro F hF hro W M w vs hL hT inv hargs
 obtain⟨h1,h2⟩:=h F hF hro W M w vs hL hT inv hargs
 refine⟨h1,fun n=>(h2 n).mono ?_⟩
 rintro e w' ⟨M',v,av,g1,g2,g3,g4,g5⟩
 exact⟨M',v,av,g1,g2,g3,g4,hr _ g5⟩
theorem PC.callG {F:Fence} (hF:Free F) {W:World} {f:FuncId} {args:List AV} {R:AV->Prop} (h:PC P G f (args.map AV.plain) R) {al:Nat->Prop} {hp0:Hp} {M:Mem} {w:World} {vs:Array Value} (inv:Inv G M al hp0 W w) (hargs:bP M.rel args vs.toList):
  (∃fn,P.funcs[f]?=some fn/\fn.body.isSome=true/\fn.name≠ "runtime.NumGoroutine")/\
  ∀n,CallsIn F n P f vs w fun e w'=> ∃M' v av,e= .returned v/\M.le M'/\Inv G M' al hp0 W w'/\M'.rel av v/\R av:=by
 let M0:Mem:= {I:=M.I,L:=kC,T:=noT,F:=fun b=>w.heap[b]?}
 have inv0:Inv G M0 (fun _=>False) (fun _=>none) W w:=by
  constructor
  ·exact inv.imm
  ·exact fun b ob h=>h
  ·exact inv.os
  ·exact inv.tape
  ·exact inv.out
  ·exact fun key _=>⟨rfl,rfl⟩
  ·intro key blk h;cases h
  ·intro k1 k2 b1 b2 b h;cases h
  ·exact inv.glob
  ·intros;trivial
 have hargs0:bP (aQ M0.I kC noT) (args.map AV.plain) vs.toList:=by
  refine⟨by simpa using hargs.1,fun i a v h1 h2=>?_⟩
  rw[List.getElem?_map] at h1
  cases ha:args[i]? with
  |none=>rw[ha] at h1;cases h1
  |some a0=>
   rw[ha] at h1
   simp only[Option.map_some,Option.some.injEq] at h1
   subst h1
   exact(hargs.2 i a0 v ha h2).plain
 obtain⟨g1,g2⟩:=h F.plain ⟨hF.fn,hF.depth⟩ rfl W M0 w vs rfl rfl inv0 hargs0
 replace g2: ∀n,CallsIn F n P f vs w _:=g2
 refine⟨g1,fun n=>(g2 n).mono ?_⟩
 rintro e w' ⟨M',v,av,rfl,hle,inv',hv,hR⟩
 have hold: ∀b ob,w.heap[b]?=some ob->w'.heap[b]?=some ob:=fun b ob hb=>inv'.far b ob (hle.F b ob hb)
 have hIold: ∀b o,b<w.heap.size->M'.I b o=M.I b o:=fun b o hb=>hle.IF b o (by show w.heap[b]?≠none;simp [hb])
 let M2:Mem:= {I:=M'.I,L:=M.L,T:=M.T,F:=M.F}
 have hle2:M.le M2:=⟨fun b o v hb=>hle.I b o v hb,fun _ _ h=>h,fun _ _ h=>h,fun _ _ h=>h,fun b o hf=>by
  cases hb:M.F b with
  |none=>exact absurd hb hf
  |some ob=>exact hIold b o (inv.lt_F hb)⟩
 refine⟨M2,v,av,rfl,hle2,?_,hv.of_pure,hR⟩
 constructor
 ·exact inv'.imm
 ·exact fun b ob hb=>hold b ob (inv.far b ob hb)
 ·exact inv'.os
 ·exact inv'.tape
 ·exact inv'.out
 ·exact inv.fresh
 ·intro key blk hb
  obtain⟨b,ob,k1,k2,k3,k4,k5⟩:=inv.live key blk hb
  have hlt:=lt_of_heap k2
  refine⟨b,ob,k1,hold b ob k2,k3.grow hle2 (fun ht b' e z hT o ho=>?_),k4,fun ht o=>?_⟩
  ·cases blk<;>simp [aI.isTok] at ht
   cases ob<;>simp only[dC] at k3
   obtain⟨_,b1,e1,z1,r1,_,_,r4⟩:=k3
   rw[hT] at r1;cases r1
   have:b=b':=by simpa [Mem.blockOf,aI.isTok,hT] using k1.symm
   subst this
   show M'.I b o=none
   rw[hIold b o hlt];exact r4 o ho
  ·show M'.I b o=none
   rw[hIold b o hlt];exact k5 ht o
 ·exact inv.inj
 ·exact inv'.glob
 ·intros;trivial
theorem PC.callOk {F:Fence} (hF:Free F) {W:World} {f:FuncId} {args:List AV} {R:AV->Prop} (h:PC P G f (args.map AV.plain) R) {K:AV->St->Prop} {st:St} (hK: ∀v,R v->K v st):
  aP F P G W f args K st:=by
 intro M w vs inv hargs
 obtain⟨g1,g2⟩:=h.callG hF inv hargs
 refine⟨g1,fun n=>(g2 n).mono ?_⟩
 rintro e w' ⟨M',v,av,rfl,hle,inv',hv,hR⟩
 exact⟨M',v,av,st,rfl,hle,inv',hv,hK av hR⟩
def SH (F:Fence) (P:Program) (G:Nat->Option (List AV)) (W:World):Hand Prop where
  fail:=False
  call:=fun f args K st=>qY F P G W f args K st
  loop:=fun c K fr st=>vV F P G W (.loop c) K fr st
  yield:=fun key args K st=> ∀M w vs,Inv G M (· <st.nx) st.hp W w->bP M.rel args vs.toList-> ∀l,M.L key=some l->
    ∃ f tmps assign body,(Instr.yield l vs).run P w= .ok (.round l f tmps assign body) w/\
      ∀n,RoundIn F n P l f tmps assign body w fun e w'=> ∃M' v av st',e= .returned v/\M.le M'/\Inv G M' (· <st'.nx) st'.hp W w'/\M'.rel av v/\K av st'
  rangeF:=fun f ps assign body K fr st=>vV F P G W (.rangeFunc f ps assign body) K fr st
  draw:=fun ops K fr st=> ∀id,vV F P G W (.region id ops true) (fun x fr st=>match x with| .normal=>K fr st|_=>False) fr st
  both:=fun l=> ∀x∈l,x
theorem aR4 (F:Fence) (W:World):yE F P G W id (SH F P G W):=
 ⟨fun h=>h,fun _ _ _ _ h=>h,fun _ _ _ _ h=>h,fun _ _ _ _ h=>h,fun _ _ _ _ _ _ _ h=>h,fun id _ _ _ _ h=>h id,fun _ h=>h⟩
theorem PC.of_callOk {f:FuncId} {args:List AV} {R:AV->Prop} (h: ∀(F:Fence),Free F->F.round=none-> ∀W,aP F P G W f args (fun v _=>v.stripR.pureR=true/\R v.stripR) st0):PC P G f args R:=by
 intro F hF hro W M w vs hL hT inv hargs
 have hinv:Inv G M (· <st0.nx) st0.hp W w:=by
  refine⟨inv.imm,inv.far,inv.os,inv.tape,inv.out,fun key _=>by rw[hL,hT];exact⟨rfl,rfl⟩,fun k b hk=>(by cases hk),fun k1 k2 b1 b2 b hk=>(by cases hk),inv.glob,fun _ _ _=>trivial⟩
 have hargs':bP M.rel args vs.toList:=bP.mono (fun a v hv=>hv.of_pure) hargs
 obtain⟨g1,g2⟩:=h F hF hro W M w vs hinv hargs'
 refine⟨g1,fun n=>(g2 n).mono ?_⟩
 rintro e w' ⟨M',v,av,st',rfl,hle,inv',hv,hp,hR⟩
 refine⟨M',v,av.stripR,rfl,hle,?_,aQ.pureR (aQ.stripR hv) hp,hR⟩
 exact(inv'.more fun _ _=>trivial).less fun k b hk=>by cases hk
theorem PC.introH (H:Fence->World->Hand Prop) (hH: ∀F,Free F-> ∀W,yE F P G W id (H F W)) {f:FuncId} {fn:Func} {c:Code} {args:List AV} {R:AV->Prop} (hf:P.funcs[f]?=some fn) (hb:fn.body=some c) (hname:fn.name≠ "runtime.NumGoroutine")
  (h: ∀(F:Fence),Free F->F.round=none-> ∀W,fG P G (H F W) c (mP P (H F W) fn.results.toList (fun v st=>(v,st)) fun v _=>v.stripR.pureR=true/\R v.stripR) (uG fn.ntmps args) st0):PC P G f args R:=by
 refine PC.of_callOk fun F hF hro W=>?_
 have hrun:=h F hF hro W
 ·intro M w vs inv hargs
  refine⟨⟨fn,hf,by simp [hb],hname⟩,fun n=>?_⟩
  refine callsIn_of_wp_marks hf hb (hF.fn f) ?_ hro
  have sim:vU G W M (uG fn.ntmps args) st0 {tmps:=vs++Array.replicate (fn.ntmps - vs.size) undef,defers:=[]} w:=by
   refine⟨inv,?_,⟨rfl,fun i key hi=>by simp [uG] at hi⟩⟩
   have hsz:vs.size=args.length:=by have:=hargs.1;simp at this;exact this.symm
   refine⟨by simp [uG,hsz],fun i h1 h2=>?_⟩
   simp only[uG,List.length_append,List.length_replicate] at h1
   by_cases hi:i<args.length
   ·simp only[uG]
    rw[List.getElem_append_left hi,Array.getElem_append_left (by omega)]
    exact hargs.getA i hi (by omega)
   ·simp only[uG]
    rw[List.getElem_append_right (by omega)]
    simp only[List.getElem_replicate]
    exact .ud
  refine wpIn_mono (rM hF (hH F hF W) c _ _ _ hrun M _ w n sim) ?_
  rintro e a w' ⟨M',fr,st',x,hM,sim',rfl,hk⟩
  have leave:mP P (H F W) fn.results.toList (fun v st=>(v,st)) (fun v _=>v.stripR.pureR=true/\R v.stripR) .ret fr st'->LeavesInM F n P fn a.tmps (fun e w'=> ∃(M':Mem) (v:Value) (av:AV) (st':St),e= .returned v/\M.le M'/\Inv G M' (· <st'.nx) st'.hp W w'/\M'.rel av v/\(av.stripR.pureR=true/\R av.stripR)) a.defers .returning w':=by
   intro hk
   simp only[mP] at hk
   split at hk
   ·rename_i st'' hst
    split at hk
    ·rename_i v hv
     refine Dx rfl fr.marks a.defers st' st'' w' v sim'.rs sim'.inv sim'.defers.1 sim'.defers.2 hst hv ?_
     intro u w2 inv2 hu
     exact⟨M',u,v,st'',rfl,hM,inv2,hu,hk⟩
    ·exact absurd hk (hH F hF W).fail
   ·exact absurd hk (hH F hF W).fail
  cases x with
  |normal=>exact leave hk
  |ret=>exact leave hk
  |exit id=>exact absurd hk (hH F hF W).fail
  |goto l=>exact absurd hk (hH F hF W).fail
end Go.Proofs.Pv
