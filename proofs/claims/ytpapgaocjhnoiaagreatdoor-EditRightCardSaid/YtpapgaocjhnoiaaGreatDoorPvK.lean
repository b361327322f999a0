/-
  The abstract machine, part K: regions, code and calls; and that a good run of the abstract machine is a good run of the model.
  The abstract machine, part L: calls of functions, contracts of functions that are handed plain values.
  The abstract machine, part M: contracts of functions that are handed plain values, and the handlers that stand for the model's own runs.
  Conditions: none but those that each statement names.
-/
import Derived.Test.YtpapgaocjhnoiaaGreatDoorPvR
import Derived.RangeFuncRecord
set_option linter.unusedVariables false
set_option linter.unusedSimpArgs false
namespace Go.Proofs.Pv
open Go
variable {P:Program} {G:Nat→Option (List AV)}
structure St where
 h:List (Nat×aG)
 nx:Nat
def hget:List (Nat×aG)→Nat→Option aG
 |[],_=>none
 |(k',b)::r,k=>if k=k' then some b else hget r k
def hset:List (Nat×aG)→Nat→aG→List (Nat×aG)
 |[],k,b=>[(k,b)]
 |(k',b')::r,k,b=>if k=k' then(k,b)::r else(k',b')::hset r k b
def hdel:List (Nat×aG)→Nat→List (Nat×aG)
 |[],_=>[]
 |(k',b')::r,k=>if k=k' then hdel r k else(k',b')::hdel r k
def Cj (nx:Nat) (h:List (Nat×aG)):List (Nat×Option aG)→List (Nat×aG)
 |[]=>h
 |(k,none)::u=>Cj nx (hdel h k) u
 |(k,some b)::u=>Cj nx (if k=nx then(k,b)::h else hset h k b) u
def St.hp (st:St):Hp:=hget st.h
def St.app (st:St) (u:List (Nat×Option aG)):St:=⟨Cj st.nx st.h u,st.nx+1⟩
theorem wI: ∀(h:List (Nat×aG)) (k:Nat) (b:aG),hget (hset h k b)=cO (hget h) k (some b)
 |[],k,b=>by funext q;simp [hset,hget,cO]
 | (k',b')::r,k,b=>by
  funext q
  simp only[hset]
  split
  ·rename_i e;subst e;simp only[hget,cO];split<;>rfl
  ·rename_i e
   simp only[hget,wI r k b,cO]
   by_cases h1:q=k'
   ·subst h1
    have: ¬q=k:=fun h=>e h.symm
    simp [this]
   ·simp [h1]
theorem oU: ∀(h:List (Nat×aG)) (k:Nat),hget (hdel h k)=cO (hget h) k none
 |[],k=>by funext q;simp [hdel,hget,cO]
 | (k',b')::r,k=>by
  funext q
  simp only[hdel]
  split
  ·rename_i e;subst e
   rw[oU r k];simp only[hget,cO];split<;>rfl
  ·rename_i e
   simp only[hget,oU r k,cO]
   by_cases h1:q=k'
   ·subst h1
    have: ¬q=k:=fun h=>e h.symm
    simp [this]
   ·simp [h1]
theorem Be (nx:Nat): ∀(u:List (Nat×Option aG)) (h:List (Nat×aG)),hget (Cj nx h u)=kX (hget h) u
 |[],h=>rfl
 |(k,none)::u,h=>by simp only[Cj,kX];rw[Be nx u,oU]
 |(k,some b)::u,h=>by
  simp only[Cj,kX]
  rw[Be nx u]
  congr 1
  split
  ·rename_i e;subst e;funext q;simp [hget,cO]
  ·exact wI h k b
structure Fr where
 s:List AV
 marks:List Nat
inductive AX where
 |normal|exit (id:Nat)|goto (l:Nat)|ret
def AX.toExit:AX→Exit
 | .normal=> .normal
 | .exit id=> .exit id
 | .goto l=> .goto l
 | .ret=> .ret
abbrev dR (R:Type):=AX→Fr→St→R
structure Hand (R:Type) where
 fail:R
 call:FuncId→List AV→(AV→St→R)→St→R
 loop:Code→dR R→Fr→St→R
 yield:Nat→List AV→(AV→St→R)→St→R
 rangeF:Operand→Array Tmp→Code→Code→dR R→Fr→St→R
 draw:Array Oper→(Fr→St→R)→Fr→St→R
 both:List R→R
def Fr.put (fr:Fr) (d:Option Tmp) (v:AV):Fr:=
 match d with
 |some d=> {fr with s:=fr.s.set d v}
 |none=>fr
def uu:AV:= .tup []
theorem Zq {M:Mem}:M.rel uu undef:= .tup rfl (fun i h=>by simp at h)
def aFv {R:Type}:List AV→Nat→AV→(List AV→R)→R
 |[],_,_,k=>k []
 |_::t,0,v,k=>k (v::t)
 |a::t,d+1,v,k=>aFv t d v fun t'=>k (a::t')
theorem aBm {R:Type}: ∀(s:List AV) (d:Nat) (v:AV) (k:List AV→R),aFv s d v k=k (s.set d v)
 |[],_,_,_=>rfl
 |_::_,0,_,_=>rfl
 |a::t,d+1,v,k=>by simp only[aFv,List.set_cons_succ];rw[aBm t d v]
def Sz {R:Type} (fr:Fr) (d:Option Tmp) (v:AV) (k:Fr→R):R:=
 match d with
 |some d=>match fr with
  |⟨s,m⟩=>aFv s d v fun s'=>k ⟨s',m⟩
 |none=>k fr
theorem aIu {R:Type} (fr:Fr) (d:Option Tmp) (v:AV) (k:Fr→R):Sz fr d v k=k (fr.put d v):=by
 cases d with
 |none=>rfl
 |some d=>cases fr;simp only[Sz,aBm,Fr.put]
section
variable {R:Type}
def uD:Nat→(Nat→R)→R
 |0,k=>k 0
 |n+1,k=>k (n+1)
theorem vK (n:Nat) (k:Nat→R):uD n k=k n:=by cases n<;>rfl
def Tc:AV→(AV→R)→R
 | .int q (.ofNat n),k=>uD n fun n'=>k (.int q (.ofNat n'))
 | .int q (.negSucc n),k=>uD n fun n'=>k (.int q (.negSucc n'))
 | .ud,k=>k .ud
 | .bool true,k=>k (.bool true)
 | .bool false,k=>k (.bool false)
 | .str s,k=>k (.str s)
 | .sl a b c,k=>k (.sl a b c)
 | .msl a b c d,k=>k (.msl a b c d)
 | .mcap a b c d e,k=>k (.mcap a b c d e)
 | .vp a,k=>k (.vp a)
 | .ptr a b,k=>uD b fun b'=>k (.ptr a b')
 | .nilp,k=>k .nilp
 | .fn a b c,k=>k (.fn a b c)
 | .yld a,k=>k (.yld a)
 | .nilf,k=>k .nilf
 | .map a,k=>k (.map a)
 | .nilm,k=>k .nilm
 | .agg a,k=>k (.agg a)
 | .tup a,k=>k (.tup a)
 | .nili,k=>k .nili
 | .ifc a b,k=>k (.ifc a b)
theorem aC1 (v:AV) (k:AV→R):Tc v k=k v:=by
 cases v<;>try rfl
 ·rename_i q n;cases n<;>simp only[Tc,vK]
 ·rename_i b;cases b<;>rfl
 ·simp only[Tc,vK]
def zU:List AV→(List AV→R)→R
 |[],k=>k []
 |a::t,k=>Tc a fun a'=>zU t fun t'=>k (a'::t')
theorem Pe: ∀(l:List AV) (k:List AV→R),zU l k=k l
 |[],_=>rfl
 |a::t,k=>by simp only[zU,aC1];rw[Pe t]
def Td:AV→(AV→R)→R
 | .agg cs,k=>zU cs fun cs'=>k (.agg cs')
 | .tup cs,k=>zU cs fun cs'=>k (.tup cs')
 | .vp cs,k=>zU cs fun cs'=>k (.vp cs')
 |x,k=>Tc x k
theorem Tf (v:AV) (k:AV→R):Td v k=k v:=by
 cases v<;>simp only[Td,aC1,Pe]
def Ld:List AV→(List AV→R)→R
 |[],k=>k []
 |a::t,k=>Td a fun a'=>Ld t fun t'=>k (a'::t')
theorem Zr: ∀(l:List AV) (k:List AV→R),Ld l k=k l
 |[],_=>rfl
 |a::t,k=>by simp only[Ld,Tf];rw[Zr t]
def aFw:AV→(AV→R)→R
 | .sl n rows t,k=>Ld rows fun rows'=>k (.sl n rows' t)
 | .tup cs,k=>Ld cs fun cs'=>k (.tup cs')
 |x,k=>Td x k
theorem aN3 (v:AV) (k:AV→R):aFw v k=k v:=by
 cases v<;>simp only[aFw,Tf,Zr]
def Zt (o:Op) (v:AV) (k:AV→R):R:=
 match o with
 | .move _| .assign _| .pick _ _ _| .extract _ _=>k v
 | .buildSlice _ _ _| .slice _ _ _ _ _| .call _=>aFw v k
 |_=>Td v k
theorem Ti (o:Op) (v:AV) (k:AV→R):Zt o v k=k v:=by
 unfold Zt;split<;>first|rfl|rw[aN3]|rw[Tf]
def Zu:aG→(aG→R)→R
 | .cells cs,k=>zU cs fun cs'=>k (.cells cs')
 |x,k=>k x
theorem aC2 (b:aG) (k:aG→R):Zu b k=k b:=by
 cases b<;>simp only[Zu,Pe]
def aD4:List (Nat×aG)→Nat→aG→(List (Nat×aG)→R)→R
 |[],q,b,k=>k [(q,b)]
 |(q',b')::r,q,b,k=>if q=q' then k ((q,b)::r) else aD4 r q b fun r'=>k ((q',b')::r')
theorem aFx: ∀(h:List (Nat×aG)) (q:Nat) (b:aG) (k:List (Nat×aG)→R),aD4 h q b k=k (hset h q b)
 |[],_,_,_=>rfl
 |(q',b')::r,q,b,k=>by
  simp only[aD4,hset]
  split
  ·rfl
  ·rw[aFx r]
def Zv:List (Nat×aG)→Nat→(List (Nat×aG)→R)→R
 |[],_,k=>k []
 |(q',b')::r,q,k=>if q=q' then Zv r q k else Zv r q fun r'=>k ((q',b')::r')
theorem Xp: ∀(h:List (Nat×aG)) (q:Nat) (k:List (Nat×aG)→R),Zv h q k=k (hdel h q)
 |[],_,_=>rfl
 |(q',b')::r,q,k=>by
  simp only[Zv,hdel]
  split
  ·rw[Xp r]
  ·rw[Xp r]
def Pg (nx:Nat):List (Nat×Option aG)→List (Nat×aG)→(List (Nat×aG)→R)→R
 |[],h,k=>k h
 |(q,none)::u,h,k=>Zv h q fun h'=>Pg nx u h' k
 |(q,some b)::u,h,k=>Zu b fun b'=>if q=nx then Pg nx u ((q,b')::h) k else aD4 h q b' fun h'=>Pg nx u h' k
theorem Ph (nx:Nat): ∀(u:List (Nat×Option aG)) (h:List (Nat×aG)) (k:List (Nat×aG)→R),Pg nx u h k=k (Cj nx h u)
 |[],_,_=>rfl
 |(q,none)::u,h,k=>by simp only[Pg,Xp,Cj];rw[Ph nx u]
 |(q,some b)::u,h,k=>by
  simp only[Pg,aC2,aFx,Cj]
  split
  ·rw[Ph nx u]
  ·rw[Ph nx u]
def appF (st:St) (u:List (Nat×Option aG)) (k:St→R):R:=
 match st with
 |⟨h,nx⟩=>match u with
  |[]=>uD (nx+1) fun nx'=>k ⟨h,nx'⟩
  |u=>Pg nx u h fun h'=>uD (nx+1) fun nx'=>k ⟨h',nx'⟩
theorem aIv (st:St) (u:List (Nat×Option aG)) (k:St→R):appF st u k=k (st.app u):=by
 cases st
 unfold appF
 cases u<;>simp only[Ph,vK]<;>rfl
end
def lH (ops:Array Oper) (s:List AV) (o:Oper):Option Bool:=
 match o.guard with
 |none=>some true
 | some (j,want)=>match(ops[j]?).bind (·.dst) with
  |some d=>match s[d]? with
   |some (.bool b)=>some (b==want)
   |some (.tup _)=>some false
   |_=>none
  |none=>none
variable {R:Type}
def Cm (P:Program) (G:Nat→Option (List AV)) (H:Hand R) (ops:Array Oper) (K:Fr→St→R):List Oper→Fr→St→R
  |[],fr,st=>K fr st
  | o ::rest,fr,st=>
    match lH ops fr.s o with
    |none=>H.fail
    | some c=>if c then
        match Qr P G fr.s st.hp st.nx o with
        |none=>H.fail
        |some (.val v u)=>Zt o.op v fun v'=>Sz fr o.dst v' fun fr'=>appF st u fun st'=>Cm P G H ops K rest fr' st'
        |some (.skip u)=>Sz fr o.dst uu fun fr'=>appF st u fun st'=>Cm P G H ops K rest fr' st'
        |some (.call f args)=>H.call f args (fun v st'=>Sz fr o.dst v fun fr'=>Cm P G H ops K rest fr' st') st
        |some (.yield key args)=>H.yield key args (fun v st'=>Sz fr o.dst v fun fr'=>Cm P G H ops K rest fr' st') st
        |some (.branch l)=>H.both (l.map fun x=>Sz fr o.dst x.1 fun fr'=>Cm P G H ops K rest fr' (st.app x.2))
      else Sz fr o.dst uu fun fr'=>Cm P G H ops K rest fr' st
def fA (P:Program) (G:Nat→Option (List AV)) (H:Hand R):Code→dR R→Fr→St→R
 | .skip,K,fr,st=>K .normal fr st
 | .region _ ops draw,K,fr,st=>if draw then H.draw ops (K .normal) fr st else Cm P G H ops (K .normal) ops.toList fr st
 | .seq a b,K,fr,st=>fA P G H a (fun x fr st=>match x with
   | .normal=>fA P G H b K fr st
   |x=>K x fr st) fr st
 | .cond c a b,K,fr,st=>match ev P G fr.s 0 c with
  | .bool q=>if q then fA P G H a K fr st else fA P G H b K fr st
  |_=>H.fail
 | .block id c,K,fr,st=>fA P G H c (fun x fr st=>match x with
   | .exit id'=>if id'=id then K .normal fr st else K (.exit id') fr st
   |x=>K x fr st) fr st
 | .loop c,K,fr,st=>H.loop c K fr st
 | .rangeFunc f ps assign body,K,fr,st=>H.rangeF f ps assign body K fr st
 | .exit id,K,fr,st=>K (.exit id) fr st
 | .label _,K,fr,st=>K .normal fr st
 | .goto _,_,_,_=>H.fail
 | .scope c,K,fr,st=>fA P G H c (fun x fr st=>match x with
   | .goto _=>H.fail
   |x=>K x fr st) fr st
 | .ret,K,fr,st=>K .ret fr st
 | .refuse _,_,_,_=>H.fail
theorem Qm {F:Fence} {n:Nat} {Q:Exit→Act→World→Prop} {a:Act} {w:World} {c:Code} (h:c.wpIn F n P (fun e a w=>match e with
  | .goto _=>False
  |e=>Q e a w) a w):(Code.scope c).wpIn F n P Q a w:=by
 intro b k cs hro hb hr
 have h0:(lone (b.atR a (.code (.scope c)::k)) cs w).fenced P F:=fenced_calm hb hr rfl
 have s0:step P (lone (b.atR a (.code (.scope c)::k)) cs w)= .next (lone (b.atR a (.code c:: .inScope c::k)) cs w):=step_lone_go (by simp [stepG,stepG.exec,Frame.atR])
 obtain⟨e,a₁,w₁,hq,harr⟩:=h b (.inScope c::k) cs hro hb hr
 have s1:step P (lone (b.atR a₁ (.inScope c::k)) cs w₁)= .next (lone (b.atR a₁ k) cs w₁):=step_lone_go (by simp [stepG,stepG.exec,Frame.atR])
 cases e with
 |normal=>exact⟨.normal,a₁,w₁,hq,.head h0 s0 (StepsIn.trans harr (.one (fenced_calm hb hr rfl) s1))⟩
 | exit id=>
  have hx:exitTo id (.inScope c::k)=exitTo id k:=by simp [exitTo]
  exact⟨.exit id,a₁,w₁,hq,fun k' hk=> .head h0 s0 (harr.1 k' (by rw[hx];exact hk)),
   fun hr' hk=>let⟨k₁,h1,h2⟩:=harr.2 hr' (by rw[hx];exact hk);⟨k₁,h1,.head h0 s0 h2⟩⟩
 |goto l=>exact hq.elim
 |ret=>exact⟨_,a₁,w₁,hq,.of_steps (.one h0 s0) harr⟩
 |panic ch=>exact⟨_,a₁,w₁,hq,.of_steps (.one h0 s0) harr⟩
 |outgrown=>exact⟨_,a₁,w₁,hq,.of_steps (.one h0 s0) harr⟩
structure uT (G:Nat→Option (List AV)) (W:World) (M:Mem) (fr:Fr) (st:St) (a:Act) (w:World):Prop where
 inv:Inv G M (· <st.nx) st.hp W w
 rs:nK M fr.s a.tmps
 defers:a.defers.length=fr.marks.length∧ ∀(i:Nat) key,fr.marks[i]?=some key→ ∃l,M.L key=some l∧a.defers[i]?=some {target:= .collected l,args:= #[]}
def Post (G:Nat→Option (List AV)) (W:World) (M0:Mem) (K:AX→Fr→St→Prop):Exit→Act→World→Prop:=
 fun e a w=> ∃M fr st x,M0.le M∧uT G W M fr st a w∧AX.toExit x=e∧K x fr st
theorem Post.mono {W:World} {M0 M1:Mem} (h:M0.le M1) {K K':AX→Fr→St→Prop} (hK: ∀x fr st,K x fr st→K' x fr st) {e:Exit} {a:Act} {w:World} (hp:Post G W M1 K e a w):Post G W M0 K' e a w:=by
 obtain⟨M,fr,st,x,h1,h2,h3,h4⟩:=hp
 exact⟨M,fr,st,x,Mem.le_trans h h1,h2,h3,hK _ _ _ h4⟩
structure Free (F:Fence):Prop where
 fn: ∀f,F.fn f
 depth:F.depth=none
def aO (F:Fence) (P:Program) (G:Nat→Option (List AV)) (W:World) (f:FuncId) (args:List AV) (K:AV→St→Prop) (st:St):Prop:=
  ∀ M w vs,Inv G M (· <st.nx) st.hp W w→aY M.rel args vs.toList→(∃fn,P.funcs[f]?=some fn∧fn.body.isSome=true∧fn.name≠ "runtime.NumGoroutine")∧
    ∀n,CallsIn F n P f vs w fun e w'=> ∃M' v av st',e= .returned v∧M.le M'∧Inv G M' (· <st'.nx) st'.hp W w'∧M'.rel av v∧K av st'
def sD (F:Fence) (P:Program) (G:Nat→Option (List AV)) (W:World) (c:Code) (K:AX→Fr→St→Prop) (fr:Fr) (st:St):Prop:=
 ∀M a w n,uT G W M fr st a w→c.wpIn F n P (Post G W M K) a w
def aKw (P:Program) (G:Nat→Option (List AV)) (W:World) (f:FuncId) (args:List AV) (K:AV→St→Prop) (st:St):Prop:=
 (∃fn,P.funcs[f]?=some fn∧fn.body=none)∧
 ∀M w vs,Inv G M (· <st.nx) st.hp W w→aY M.rel args vs.toList→ ∃v w' M' av st',(callFunc f vs).run P w= .ok (.value v) w'∧M.le M'∧Inv G M' (· <st'.nx) st'.hp W w'∧M'.rel av v∧K av st'
def qI (F:Fence) (P:Program) (G:Nat→Option (List AV)) (W:World) (f:FuncId) (args:List AV) (K:AV→St→Prop) (st:St):Prop:=aO F P G W f args K st∨aKw P G W f args K st
structure uU (F:Fence) (P:Program) (G:Nat→Option (List AV)) (W:World) (ok:R→Prop) (H:Hand R):Prop where
  fail: ¬ok H.fail
  call: ∀f args K st,ok (H.call f args K st)→qI F P G W f args (fun v st=>ok (K v st)) st
  loop: ∀c K fr st,ok (H.loop c K fr st)→sD F P G W (.loop c) (fun x fr st=>ok (K x fr st)) fr st
  yield: ∀key args K st,ok (H.yield key args K st)→ ∀M w vs,Inv G M (· <st.nx) st.hp W w→aY M.rel args vs.toList→ ∀l,M.L key=some l→
    ∃ f tmps assign body,(Instr.yield l vs).run P w= .ok (.round l f tmps assign body) w∧
      ∀n,RoundIn F n P l f tmps assign body w fun e w'=> ∃M' v av st',e= .returned v∧M.le M'∧Inv G M' (· <st'.nx) st'.hp W w'∧M'.rel av v∧ok (K av st')
  rangeF: ∀f ps assign body K fr st,ok (H.rangeF f ps assign body K fr st)→sD F P G W (.rangeFunc f ps assign body) (fun x fr st=>ok (K x fr st)) fr st
  draw: ∀id ops K fr st,ok (H.draw ops K fr st)→sD F P G W (.region id ops true) (fun x fr st=>match x with| .normal=>ok (K fr st)|_=>False) fr st
  both: ∀l,ok (H.both l)→ ∀x∈l,ok x
theorem wU {M:Mem} {ops:Array Oper} {s:List AV} {tmps:Array Value} (rs:nK M s tmps) {o:Oper} {c:Bool} (h:lH ops s o=some c):Region.wanted o (yielded ops tmps)=c:=by
 unfold lH at h
 unfold Region.wanted
 split at h
 ·simp only[Option.some.injEq] at h;subst h;rename_i hg;rw[hg]
 ·rename_i j want hg
  rw[hg]
  split at h
  ·rename_i d hd
   split at h
   ·rename_i b hb
    simp only[Option.some.injEq] at h;subst h
    obtain⟨h1,h2⟩:=List.getElem?_eq_some_iff.1 hb
    have h1':d<tmps.size:=by rw[rs.1];exact h1
    have:=rs.2 d h1 h1'
    rw[h2] at this
    have hv:tmps[d]= .bool b:=by
     have: ∀v,M.rel (.bool b) v→v= .bool b:=fun v hv=>by cases hv;rfl
     exact this _ (by assumption)
    simp only[yielded,hd,Option.bind_some,Array.getElem?_eq_getElem h1',hv]
    cases b<;>cases want<;>rfl
   ·rename_i ts hb
    simp only[Option.some.injEq] at h;subst h
    obtain⟨h1,h2⟩:=List.getElem?_eq_some_iff.1 hb
    have h1':d<tmps.size:=by rw[rs.1];exact h1
    have:=rs.2 d h1 h1'
    rw[h2] at this
    have hv: ∃cs,tmps[d]= .tuple cs:=by
     have: ∀v,M.rel (.tup ts) v→ ∃cs,v= .tuple cs:=fun v hv=>by cases hv;exact⟨_,rfl⟩
     exact this _ (by assumption)
    obtain⟨cs,hv⟩:=hv
    simp only[yielded,hd,Option.bind_some,Array.getElem?_eq_getElem h1',hv]
    cases want<;>rfl
   ·cases h
  ·cases h
theorem uT.put {W:World} {M:Mem} {fr:Fr} {st:St} {a:Act} {w:World} (sim:uT G W M fr st a w) {M':Mem} (hle:M.le M') {st':St} {w':World} (inv':Inv G M' (· <st'.nx) st'.hp W w') (d:Option Tmp) {v:AV} {u:Value} (hv:M'.rel v u):
  uT G W M' (fr.put d v) st' (a.put d u) w':=by
 have rs:=sim.rs.mono hle
 obtain⟨d1,d2⟩:=sim.defers
 have hd: ∀(i:Nat) key,fr.marks[i]?=some key→ ∃l,M'.L key=some l∧a.defers[i]?=some {target:= .collected l,args:= #[]}:=fun i key h=>by
  obtain⟨l,h1,h2⟩:=d2 i key h;exact⟨l,hle.L _ _ h1,h2⟩
 cases d with
 |none=>exact⟨inv',rs,⟨d1,hd⟩⟩
 |some d=>exact⟨inv',rs.set d hv,⟨d1,hd⟩⟩
theorem Pj {nx:Nat}: ∀k,kP (· <nx) nx k→k<nx+1:=by
 intro k h
 rcases h with h|h
 ·exact Nat.lt_succ_of_lt h
 ·omega
theorem Zw {F:Fence} (hF:Free F) {W:World} {ok:R→Prop} {H:Hand R} (hH:uU F P G W ok H) {ops:Array Oper} {K:Fr→St→R} {Q:Exit→Act→World→Prop} {M0:Mem} {n:Nat}
  (hQ: ∀M fr st a w,M0.le M→uT G W M fr st a w→ok (K fr st)→Q .normal a w): ∀(l:List Oper) (k:Nat),(∀j,l[j]?=ops[k+j]?)→ ∀(fr:Fr) (st:St) (M:Mem) (a:Act) (w:World),M0.le M→uT G W M fr st a w→
   ok (Cm P G H ops K l fr st)→wpOpsIn F n P ops Q (List.range' k l.length) a w
 |[],k,_,fr,st,M,a,w,hM,sim,h=>hQ M fr st a w hM sim h
 | o ::rest,k,hl,fr,st,M,a,w,hM,sim,h=>by
  have ho:ops[k]?=some o:=by simpa using(hl 0).symm
  have hrest: ∀j,rest[j]?=ops[k+1+j]?:=fun j=>by
   have:=hl (j+1)
   rw[show k+1+j=k+(j+1) by omega,←this];simp
  have ih:=Zw hF hH (n:=n) hQ rest (k+1) hrest
  simp only[List.length_cons,List.range'_succ,wpOpsIn,ho]
  simp only[Cm,aIu,Ti,aIv] at h
  split at h
  ·exact absurd h hH.fail
  ·rename_i c hc
   have hw:=wU sim.rs hc
   cases c with
   |false=>
    simp only[Bool.false_eq_true,if_false] at h
    rw[if_neg (by rw[hw];simp)]
    exact⟨fun f _=>hF.fn f,ih _ _ M _ _ hM (sim.put M.le_refl sim.inv o.dst Zq) h⟩
   | true=>
    simp only[if_true] at h
    rw[if_pos hw]
    refine⟨fun f _=>hF.fn f,?_⟩
    have hn: ¬st.nx<st.nx:=Nat.lt_irrefl _
    cases hres:Qr P G fr.s st.hp st.nx o with
    |none=>rw[hres] at h;exact absurd h hH.fail
    | some res=>
     rw[hres] at h
     have hnd: ∀c,o.op≠ .defer c:=by
      intro c hc'
      obtain⟨dst,op,ty,pos,after,guard⟩:=o
      simp only at hc'
      subst hc'
      simp [Qr,jA,zC,mM,zH,Bl] at hres
     have hr:=aTn (P:=P) sim.inv hn sim.rs hres
     rw[Oper.semAt_eq _ _ _ hnd]
     cases res with
     |val v u=>
      obtain⟨v',w',M',h1,h2,h3,h4⟩:=hr
      rw[h1]
      refine ih _ _ M' _ _ (Mem.le_trans hM h2) (sim.put h2 ?_ o.dst h4) h
      have:(st.app u).hp=kX st.hp u:=Be _ _ _
      rw[this]
      exact h3.more Pj
     |skip u=>
      obtain⟨w',M',h1,h2,h3⟩:=hr
      rw[h1]
      refine ih _ _ M' _ _ (Mem.le_trans hM h2) (sim.put h2 ?_ o.dst Zq) h
      have:(st.app u).hp=kX st.hp u:=Be _ _ _
      rw[this]
      exact h3.more Pj
     | call f args=>
      obtain⟨vs,h1,h2⟩:=hr
      rcases hH.call _ _ _ _ h with hc|⟨_,hc⟩
      ·obtain⟨⟨fn,g1,g2,g3⟩,hcall⟩:=hc M w vs sim.inv h1
       rw[h2,Nq g1 g2 g3,Oper.uponIn_enter]
       refine⟨fun hd=>by rw[hF.depth] at hd;simp at hd,(hcall (n - 1)).mono ?_⟩
       rintro e w' ⟨M',v,av,st',rfl,k1,k2,k3,k4⟩
       exact ih _ _ M' _ _ (Mem.le_trans hM k1) (sim.put k1 k2 o.dst k3) k4
      ·obtain⟨v,w',M',av,st',k0,k1,k2,k3,k4⟩:=hc M w vs sim.inv h1
       rw[h2,k0]
       exact ih _ _ M' _ _ (Mem.le_trans hM k1) (sim.put k1 k2 o.dst k3) k4
     |yield key args=>
      obtain⟨l,vs,hL,h1,h2⟩:=hr
      obtain⟨f,tmps,assign,body,g1,g2⟩:=hH.yield _ _ _ _ h M w vs sim.inv h1 l hL
      rw[h2,g1,Oper.uponIn_round]
      refine⟨fun hd=>by rw[hF.depth] at hd;simp at hd,(g2 (n - 1)).mono ?_⟩
      rintro e w' ⟨M',v,av,st',rfl,k1,k2,k3,k4⟩
      exact ih _ _ M' _ _ (Mem.le_trans hM k1) (sim.put k1 k2 o.dst k3) k4
     |branch l=>
      obtain⟨v,u,hmem,v',w',M',h1,h2,h3,h4⟩:=hr
      rw[h1]
      have hx:=hH.both _ h _ (List.mem_map.2 ⟨(v,u),hmem,rfl⟩)
      refine ih _ _ M' _ _ (Mem.le_trans hM h2) (sim.put h2 ?_ o.dst h4) hx
      have:(st.app u).hp=kX st.hp u:=Be _ _ _
      rw[this]
      exact h3.more Pj
theorem qM {F:Fence} (hF:Free F) {W:World} {ok:R→Prop} {H:Hand R} (hH:uU F P G W ok H): ∀(c:Code) (K:dR R) (fr:Fr) (st:St),ok (fA P G H c K fr st)→
  sD F P G W c (fun x fr st=>ok (K x fr st)) fr st:=by
 intro c
 induction c with
 |skip=>intro K fr st h M a w n sim;exact wpIn_skip ⟨M,fr,st,.normal,M.le_refl,sim,rfl,h⟩
 | region id ops draw=>
  intro K fr st h M a w n sim
  cases draw with
  |true=>
   simp only[fA,if_true] at h
   refine wpIn_mono (hH.draw id ops _ fr st h M a w n sim) ?_
   intro e a w hp
   refine Post.mono M.le_refl (fun x fr st hx=>?_) hp
   cases x<;>first|exact hx|exact hx.elim
  |false=>
   simp only[fA,Bool.false_eq_true,if_false] at h
   refine wpIn_region ?_
   have:=Zw hF hH (M0:=M) (n:=n) (Q:=Post G W M fun x fr st=>ok (K x fr st)) (ops:=ops) (fun M' fr st a w hM sim hk=>⟨M',fr,st,.normal,hM,sim,rfl,hk⟩) ops.toList 0 (fun j=>by simp) fr st M a w M.le_refl sim h
   rw[List.range_eq_range']
   simpa using this
 |seq a b iha ihb=>
  intro K fr st h M ac w n sim
  simp only[fA] at h
  refine wpIn_seq (wpIn_mono (iha _ fr st h M ac w n sim) ?_)
  rintro e a' w' ⟨M',fr',st',x,h1,h2,rfl,h4⟩
  cases x with
  |normal=>exact wpIn_mono (ihb _ fr' st' h4 M' a' w' n h2) fun e a w hp=>Post.mono h1 (fun _ _ _ h=>h) hp
  |exit id=>exact⟨M',fr',st',.exit id,h1,h2,rfl,h4⟩
  |goto l=>exact⟨M',fr',st',.goto l,h1,h2,rfl,h4⟩
  |ret=>exact⟨M',fr',st',.ret,h1,h2,rfl,h4⟩
 | cond c a b iha ihb=>
  intro K fr st h M ac w n sim
  simp only[fA] at h
  have hc:=eP (P:=P) sim.inv sim.rs 0 c
  split at h
  ·rename_i q hq
   rw[hq] at hc
   have hv:ac.eval c= .bool q:=by
    have: ∀v,M.rel (.bool q) v→v= .bool q:=fun v hv=>by cases hv;rfl
    exact this _ hc
   refine wpIn_cond hv ?_
   cases q with
   |true=>simp only[if_true] at h ⊢;exact iha K fr st h M ac w n sim
   |false=>simp only[Bool.false_eq_true,if_false] at h ⊢;exact ihb K fr st h M ac w n sim
  ·exact absurd h hH.fail
 | block id c ih=>
  intro K fr st h M ac w n sim
  simp only[fA] at h
  refine wpIn_block (wpIn_mono (ih _ fr st h M ac w n sim) ?_)
  rintro e a' w' ⟨M',fr',st',x,h1,h2,rfl,h4⟩
  cases x with
  |normal=>exact⟨M',fr',st',.normal,h1,h2,rfl,h4⟩
  |exit id'=>
   simp only at h4
   simp only[AX.toExit,Exit.inBlock]
   split
   ·rename_i e;rw[if_pos e] at h4;exact⟨M',fr',st',.normal,h1,h2,rfl,h4⟩
   ·rename_i e;rw[if_neg e] at h4;exact⟨M',fr',st',.exit id',h1,h2,rfl,h4⟩
  |goto l=>exact⟨M',fr',st',.goto l,h1,h2,rfl,h4⟩
  |ret=>exact⟨M',fr',st',.ret,h1,h2,rfl,h4⟩
 |loop c _=>intro K fr st h;exact hH.loop c K fr st h
 |rangeFunc f ps assign body _ _=>intro K fr st h;exact hH.rangeF f ps assign body K fr st h
 |exit id=>intro K fr st h M a w n sim;exact wpIn_exit ⟨M,fr,st,.exit id,M.le_refl,sim,rfl,h⟩
 |label l=>intro K fr st h M a w n sim;exact wpIn_label ⟨M,fr,st,.normal,M.le_refl,sim,rfl,h⟩
 |goto l=>intro K fr st h;exact absurd h hH.fail
 |scope c ih=>
  intro K fr st h M ac w n sim
  simp only[fA] at h
  refine Qm (wpIn_mono (ih _ fr st h M ac w n sim) ?_)
  rintro e a' w' ⟨M',fr',st',x,h1,h2,rfl,h4⟩
  cases x with
  |normal=>exact⟨M',fr',st',.normal,h1,h2,rfl,h4⟩
  |exit id'=>exact⟨M',fr',st',.exit id',h1,h2,rfl,h4⟩
  |goto l=>exact absurd h4 hH.fail
  |ret=>exact⟨M',fr',st',.ret,h1,h2,rfl,h4⟩
 |ret=>intro K fr st h M a w n sim;exact wpIn_ret ⟨M,fr,st,.ret,M.le_refl,sim,rfl,h⟩
 |refuse s=>intro K fr st h;exact absurd h hH.fail
end Go.Proofs.Pv
namespace Go.Proofs.Pv
open Go
variable {P:Program} {G:Nat→Option (List AV)} {R:Type}
def ares (P:Program) (g:Hp) (s:List AV):ResultVar→Option AV
 | .tmp t=>some (s.getD t .ud)
 | .cell a t=>Iy P g t (s.getD a .ud)
def Hw (P:Program) (g:Hp) (s:List AV):List ResultVar→Option (List AV)
 |[]=>some []
 |r::rs=>match ares P g s r,Hw P g s rs with
  |some v,some vs=>some (v::vs)
  |_,_=>none
def tN (P:Program) (g:Hp) (s:List AV) (rs:List ResultVar):Option AV:=
 match Hw P g s rs with
 |some [v]=>some v
 |some vs=>some (.tup vs)
 |none=>none
def tV:List Nat→St→Option St
 |[],st=>some st
 |k::ks,st=>match st.hp k with
  |some (.dfd true)=>tV ks ⟨hset st.h k (.dfd false),st.nx⟩
  |_=>none
def hlow (n:Nat):List (Nat×aG)→List (Nat×aG)
 |[]=>[]
 |(k,b)::r=>if k<n then(k,b)::hlow n r else hlow n r
def lQ (P:Program) (H:Hand R) (rs:List ResultVar) (fin:AV→St→AV×St) (K:AV→St→R):dR R:=fun x fr st=>
 match x with
 | .normal| .ret=>match tV fr.marks st with
  | some st'=>match tN P st'.hp fr.s rs with
   |some v=>match fin v st' with
    |(v',st'')=>K v' st''
   |none=>H.fail
  |none=>H.fail
 |_=>H.fail
def sO (n:Nat) (args:List AV):Fr:=⟨args++List.replicate (n - args.length) .ud,[]⟩
def Weak (st st':St):Prop:=st.nx≤st'.nx∧ ∀k b,st'.hp k=some b→st.hp k=some b
mutual
def AV.lo (n:Nat):AV→Bool
 | .ptr k _| .msl k _ _ _| .mcap k _ _ _ _| .map k| .yld k=>decide (k<n)
 | .sl _ _ (.tok k)=>decide (k<n)
 | .fn _ a b=>AV.loL n a && AV.loL n b
 | .agg cs| .tup cs=>AV.loL n cs
 | .ifc _ v=>AV.lo n v
 |_=>true
def AV.loL (n:Nat):List AV→Bool
 |[]=>true
 |x::xs=>AV.lo n x && AV.loL n xs
end
def aG.lo (n:Nat):aG→Bool
 | .cells cs=>AV.loL n cs
 | .map es _=>es.all fun e=>e.key.lo n && e.val.lo n
 | .mit m _ _ _=>decide (m<n)
 | .loop _ _ s _ _ _ d=>AV.loL n s && decide (d<n)
 |_=>true
def hlo (n:Nat):List (Nat×aG)→Bool
 |[]=>true
 |(k,b)::r=>(decide (n≤k)||b.lo n) && hlo n r
def aEk (args:List AV) (n0:Nat) (v:AV) (st:St):St:=
 if v.pureR && (args.all AV.pureV||hlo n0 st.h) then⟨hlow n0 st.h,max st.nx (n0+65536)⟩ else st
def Jo (v:AV) (st:St):AV×St:=
 match v with
 | .msl key off n k=>match st.hp key with
  |some (.cells cs)=>if off=0∧n*k≤cs.length∧0<k∧cs.all AV.pure=true then(.sl k (chunks (!(Nat.beq k 1)) k n cs) .none,⟨hdel st.h key,st.nx⟩) else(v,st)
  |_=>(v,st)
 |_=>(v,st)
def pJ (f:AV→St→AV×St):List AV→St→List AV×St
 |[],st=>([],st)
 | x::xs,st=>match f x st with
  |(x',st')=>match pJ f xs st' with
   |(xs',st'')=>(x'::xs',st'')
def qU:Nat→AV→St→AV×St
 |0,v,st=>(v,st)
 | d +1,v,st=>match v with
  | .agg cs=>match pJ (qU d) cs st with
   |(cs',st')=>(.agg cs',st')
  | .tup cs=>match pJ (qU d) cs st with
   |(cs',st')=>(.tup cs',st')
  | .msl key off n k=>match st.hp key with
   | some (.cells cs)=>match pJ (qU d) cs st with
    |(cs',st')=>match st'.hp key with
     |some (.cells _)=>Jo (.msl key off n k) ⟨hset st'.h key (.cells cs'),st'.nx⟩
     |_=>(v,st')
   |_=>(v,st)
  |_=>(v,st)
def Je (fz:Bool) (args:List AV) (n0:Nat) (v:AV) (st:St):AV×St:=
 match(if fz then qU 9 v st else(v,st)) with
 |(v',st')=>(v',aEk args n0 v' st')
def pX (P:Program) (G:Nat→Option (List AV)) (H:Hand R) (fin:List AV→Nat→AV→St→AV×St) (f:FuncId) (args:List AV) (K:AV→St→R) (st:St):R:=
 match P.funcs[f]? with
 |some fn=>match fn.body with
  |some c=>fA P G H c (lQ P H fn.results.toList (fin args st.nx) K) (sO fn.ntmps args) st
  |none=>H.fail
 |none=>H.fail
def aDv (tmps:Array Value):ResultVar→Sem Value
 | .tmp t=>pure (tmps.getD t undef)
 | .cell a t=>do loadVar t (←asAddr (tmps.getD a undef))
theorem aJg (fn:Func) (tmps:Array Value):results fn tmps=(do let vs←fn.results.mapM (aDv tmps);pure (if h:vs.size=1 then vs[0] else .tuple vs)):=by
 unfold results
 have:(fun x:ResultVar=>(match x with
  | .tmp t=>pure (tmps.getD t undef)
  | .cell a t=>do loadVar t (←asAddr (tmps.getD a undef)):Sem Value))=aDv tmps:=by funext x;cases x<;>rfl
 rw[←this]
 rfl
theorem aJh {t:TypeId} {va u:Value} {w:World} (h:(Instr.loadAt t va).run P w= .ok u w):((do loadVar t (←asAddr va)):Sem Value).run P w= .ok u w:=by
 cases va<;>simp [Instr.loadAt,Instr.sureAddr] at h
 rename_i A
 cases A<;>simp at h
 simpa [asAddr] using h
theorem Jp {M:Mem} {al:Nat→Prop} {hp:Hp} {W w:World} (inv:Inv G M al hp W w) {s:List AV} {tmps:Array Value} (rs:nK M s tmps): ∀(l:List ResultVar) (vs:List AV),Hw P hp s l=some vs→
  ∃us:List Value,(l.mapM (aDv tmps)).run P w= .ok us w∧aY M.rel vs us
 |[],vs,h=>by simp [Hw] at h;subst h;exact⟨[],by simp,rfl,fun i a v h=>by simp at h⟩
 | r ::l,vs,h=>by
  unfold Hw at h
  split at h
  ·rename_i v vs' h1 h2
   simp only[Option.some.injEq] at h;subst h
   obtain⟨us,g1,g2⟩:=Jp inv rs l vs' h2
   have key: ∃u,(aDv tmps r).run P w= .ok u w∧M.rel v u:=by
    cases r with
    |tmp t=>
     simp only[ares,Option.some.injEq] at h1;subst h1
     exact⟨_,rfl,rs.get t⟩
    |cell a t=>
     simp only[ares] at h1
     obtain⟨u,k1,k2⟩:=aBx (P:=P) inv (rs.get a) h1
     exact⟨u,aJh k1,k2⟩
   obtain⟨u,k1,k2⟩:=key
   refine⟨u::us,?_,by simp [g2.1],fun i a b e1 e2=>?_⟩
   ·rw[List.mapM_cons]
    simp only[Sem.run_bind,k1,Result.andThen_ok,g1,Sem.run_pure]
   ·cases i with
    |zero=>simp at e1 e2;subst e1;subst e2;exact k2
    |succ i=>exact g2.2 i a b (by simpa using e1) (by simpa using e2)
  ·cases h
theorem aG1 {M:Mem} {al:Nat→Prop} {hp:Hp} {W w:World} (inv:Inv G M al hp W w) {s:List AV} {tmps:Array Value} (rs:nK M s tmps) {fn:Func} {v:AV} (h:tN P hp s fn.results.toList=some v):
  ∃u,(results fn tmps).run P w= .ok u w∧M.rel v u:=by
 unfold tN at h
 cases hl:Hw P hp s fn.results.toList with
 |none=>rw[hl] at h;cases h
 | some vs=>
  obtain⟨us,h1,h2⟩:=Jp inv rs _ _ hl
  have hrun:(results fn tmps).run P w= .ok (if h:us.toArray.size=1 then us.toArray[0] else .tuple us.toArray) w:=by
   rw[aJg,Array.mapM_eq_mapM_toList]
   simp only[Sem.run_bind,Sem.run_map,h1,Result.andThen_ok,Sem.run_pure]
  rw[hrun]
  rw[hl] at h
  match vs,us,h2,h with
  |[a],[u],h2,h=>
   simp only[Option.some.injEq] at h;subst h
   exact⟨u,by simp,h2.2 0 _ _ rfl rfl⟩
  |[],us,h2,h=>
   simp only[Option.some.injEq] at h;subst h
   have:us=[]:=List.eq_nil_of_length_eq_zero h2.1.symm
   subst this
   exact⟨_,rfl,.tup (by simp) (fun i h=>by simp at h)⟩
  |a::b::vs,us,h2,h=>
   simp only[Option.some.injEq] at h;subst h
   have hne: ¬us.toArray.size=1:=by have:=h2.1;simp at this ⊢;omega
   rw[dif_neg hne]
   exact⟨_,rfl,.tup (by simpa using h2.1.symm) (fun i h h'=>by show M.rel _ _;simpa using h2.get i h (by simpa using h'))⟩
  |[a],[],h2,_=>simp [aY] at h2
  |[a],_::_::_,h2,_=>simp [aY] at h2
theorem Wq (n:Nat): ∀(h:List (Nat×aG)) (k:Nat) (b:aG),hget (hlow n h) k=some b→hget h k=some b
 |[],k,b,h=>by simp [hlow,hget] at h
 | (k',b')::r,k,b,h=>by
  simp only[hlow] at h
  split at h
  ·simp only[hget] at h ⊢
   split
   ·rename_i e;rw[if_pos e] at h;exact h
   ·rename_i e;rw[if_neg e] at h;exact Wq n r k b h
  ·rename_i hn
   have ih:=Wq n r k b h
   simp only[hget]
   split
   ·rename_i e
    subst e
    exfalso
    have: ∀(r:List (Nat×aG)),hget (hlow n r) k=none:=by
     intro r
     induction r with
     |nil=>rfl
     | cons p r ih=>
      obtain⟨q,c⟩:=p
      simp only[hlow]
      split
      ·rename_i hq
       simp only[hget]
       rw[if_neg (by omega)]
       exact ih
      ·exact ih
    rw[this r] at h;cases h
   ·exact ih
theorem Weak.refl (st:St):Weak st st:=⟨Nat.le_refl _,fun _ _ h=>h⟩
theorem aLy (args:List AV) (n:Nat) (v:AV) (st:St):Weak st (aEk args n v st):=by
 unfold aEk
 split
 ·exact⟨Nat.le_max_left _ _,fun k b h=>Wq _ _ _ _ h⟩
 ·exact Weak.refl st
def Ur (G:Nat→Option (List AV)) (fin:AV→St→AV×St):Prop:=
 ∀ {W:World} {M:Mem} {w:World} {v:AV} {u:Value} {st:St},Inv G M (· <st.nx) st.hp W w→M.rel v u→ ∃M',M.le M'∧Inv G M' (· < (fin v st).2.nx) (fin v st).2.hp W w∧M'.rel (fin v st).1 u
theorem Dp {a:Bool} {k:Nat}: ∀(n:Nat) (cs:List AV),(chunks a k n cs).length=n
 |0,_=>rfl
 |n+1,cs=>by simp only[chunks,List.length_cons,Dp n]
theorem yR {k:Nat} (hk:0<k): ∀(n:Nat) (cs:List AV),n*k≤cs.length→(∀x∈cs,x.pure=true)→
  (∀r∈chunks (!(Nat.beq k 1)) k n cs,r.cells.length=k∧ ∀x∈r.cells,x.pure=true)∧(chunks (!(Nat.beq k 1)) k n cs).flatMap AV.cells=cs.take (n*k)
 |0,cs,_,_=>by simp [chunks]
 | n +1,cs,hl,hp=>by
  have hl':n*k+k≤cs.length:=by rw[←Nat.succ_mul];exact hl
  obtain⟨h1,h2⟩:=yR hk n (cs.drop k) (by simp;omega) (fun x hx=>hp x (List.mem_of_mem_drop hx))
  have hrow:(if(!(Nat.beq k 1))=true then AV.agg (cs.take k) else cs.headD .ud).cells=cs.take k:=by
   by_cases e:k=1
   ·subst e
    match cs,hl',hp with
    |[],hl',_=>simp at hl'
    |c::cs,_,hp=>
     have hc:=AV.one_of_pure (hp c (by simp))
     simp only[show Nat.beq 1 1=true from rfl,Bool.not_true,Bool.false_eq_true,if_false,List.headD_cons,List.take_succ_cons,List.take_zero]
     cases c<;>first|rfl|simp [AV.one] at hc
   ·have hb:Nat.beq k 1=false:=by
     cases h:Nat.beq k 1 with
     |false=>rfl
     |true=>exact absurd (Nat.eq_of_beq_eq_true h) e
    simp [hb,AV.cells]
  simp only[chunks]
  refine⟨fun r hr=>?_,?_⟩
  ·rcases List.mem_cons.1 hr with rfl|hr
   ·rw[hrow]
    exact⟨by simp;omega,fun x hx=>hp x (List.mem_of_mem_take hx)⟩
   ·exact h1 r hr
  ·rw[List.flatMap_cons,hrow,h2,Nat.succ_mul,Nat.add_comm,List.take_add]
theorem aLz:Ur G Jo:=by
 intro W M w v u st inv hv
 unfold Jo
 split
 ·rename_i key off n k
  split
  ·rename_i cs hk
   split
   ·rename_i hc
    obtain⟨rfl,hle,hk0,hpure⟩:=hc
    rw[List.all_eq_true] at hpure
    obtain⟨b,ob,g1,g2,g3,g4,g5⟩:=inv.live key _ hk
    cases hv with
    | @msl _ _ _ _ _ _ b' c z hL hT hz hcap=>
    have hb:b'=b:=by simpa [Mem.blockOf,aG.isTok,hL] using g1
    subst hb
    cases ob<;>simp only[bY] at g3
    rename_i cur el fr
    obtain⟨rfl,k1,k2,_⟩:=g3
    have hIb: ∀o,M.I b' o=none:=g5 rfl
    have hle1:M.le (M.addI b' 0 (cur.toList.take cs.length)):=Mem.le_addI g4 fun o _ _=>hIb o
    have hlen:(cur.toList.take cs.length).length=cs.length:=by simp;omega
    have hrelI: ∀j (hj:j<cs.length),∃x,(M.addI b' 0 (cur.toList.take cs.length)).I b' j=some x∧aP M.I jM noT cs[j] x:=by
     intro j hj
     have hjc:j<cur.size:=by omega
     refine⟨cur[j],?_,(k2 j hj hjc).pure (hpure _ (List.getElem_mem hj))⟩
     simp only[Mem.addI]
     rw[if_pos ⟨trivial,by omega,by rw[hlen];omega⟩,Nat.sub_zero,List.getElem?_take,if_pos hj]
     simp [hjc]
    refine⟨_,hle1,?_,?_⟩
    ·show Inv G _ (· <st.nx) (hget (hdel st.h key)) W w
     rw[oU]
     constructor
     ·intro d o x hx
      simp only[Mem.addI] at hx
      split at hx
      ·rename_i hd
       obtain⟨rfl,_,ho⟩:=hd
       rw[lZ g2]
       rw[Nat.sub_zero,List.getElem?_take] at hx
       split at hx
       ·simpa using hx
       ·cases hx
      ·exact inv.imm d o x hx
     ·exact inv.far
     ·exact inv.os
     ·exact inv.tape
     ·exact inv.out
     ·exact inv.fresh
     ·intro q bk hq
      by_cases e:q=key
      ·subst e;simp [cO] at hq
      ·simp only[cO,e,if_false] at hq
       obtain⟨b2,ob2,r1,r2,r3,r4,r5⟩:=inv.live q bk hq
       have hne:b2≠b':=fun eb=>by subst eb;exact e (inv.inj q key bk _ b2 hq hk r1 g1)
       refine⟨b2,ob2,r1,r2,r3.grow hle1 (fun ht b3 e3 z3 hT3 o ho=>?_),r4,fun ht o=>?_⟩
       ·cases bk<;>simp [aG.isTok] at ht
        cases ob2<;>simp only[bY] at r3
        obtain⟨_,b4,e4,z4,s1,_,_,s4⟩:=r3
        rw[hT3] at s1;cases s1
        have:b2=b3:=by simpa [Mem.blockOf,aG.isTok,hT3] using r1.symm
        subst this
        simp only[Mem.addI]
        rw[if_neg (by intro hc;exact hne hc.1)]
        exact s4 o ho
       ·simp only[Mem.addI]
        rw[if_neg (by intro hc;exact hne hc.1)]
        exact r5 ht o
     ·intro k1 k2 b1 b2 q h1 h2 h3 h4
      refine inv.inj k1 k2 b1 b2 q ?_ ?_ h3 h4
      ·simp only[cO] at h1;split at h1
       ·cases h1
       ·exact h1
      ·simp only[cO] at h2;split at h2
       ·cases h2
       ·exact h2
     ·intro g cells hg;exact aP.mono0 hle1.I (inv.glob g cells hg) (fun _ _ h=>h) (fun _ _ h=>h)
     ·intros;trivial
    ·obtain⟨c1,c2⟩:=yR hk0 n cs hle hpure
     have hl:=Dp (a:=!(Nat.beq k 1)) (k:=k) n cs
     have key2:aP (M.addI b' 0 (cur.toList.take cs.length)).I (M.addI b' 0 (cur.toList.take cs.length)).L (M.addI b' 0 (cur.toList.take cs.length)).T (.sl k (chunks (!(Nat.beq k 1)) k n cs) .none) (.slice (some ⟨b',0,none⟩) (chunks (!(Nat.beq k 1)) k n cs).length c):=by
      refine Dx (cs:=(cur.toList.take cs.length).take (n*k)) (fun r hr=>(c1 r hr).1) (fun r hr=>(c1 r hr).2) ?_ ?_ (by rw[hl];exact hcap) trivial
      ·rw[c2]
       refine aY.take ⟨hlen.symm,fun i a x h1 h2=>?_⟩ _
       obtain⟨hi,rfl⟩:=List.getElem?_eq_some_iff.1 h1
       obtain⟨y,e1,e2⟩:=hrelI i hi
       simp only[Mem.addI] at e1
       rw[if_pos ⟨trivial,by omega,by rw[hlen];omega⟩,Nat.sub_zero,h2] at e1
       simp only[Option.some.injEq] at e1
       subst e1
       exact aP.mono0 hle1.I e2 (fun _ _ h=>h) (fun _ _ h=>h)
      ·intro q hq
       have hq':q<cs.length:=by simp at hq;omega
       simp only[Mem.addI]
       rw[if_pos ⟨trivial,by omega,by rw[hlen];omega⟩,Nat.sub_zero]
       rw[List.getElem_take,List.getElem?_eq_getElem]
     rw[hl] at key2
     exact key2
   ·exact⟨M,M.le_refl,inv,hv⟩
  ·exact⟨M,M.le_refl,inv,hv⟩
 ·exact⟨M,M.le_refl,inv,hv⟩
theorem aAz {f:AV→St→AV×St} (hf:Ur G f): ∀(l:List AV) (us:List Value) {W:World} {M:Mem} {w:World} {st:St},Inv G M (· <st.nx) st.hp W w→aY M.rel l us→
  ∃M',M.le M'∧Inv G M' (· < (pJ f l st).2.nx) (pJ f l st).2.hp W w∧aY M'.rel (pJ f l st).1 us
 |[],us,W,M,w,st,inv,hr=>⟨M,M.le_refl,inv,hr⟩
 |x::xs,[],W,M,w,st,inv,hr=>by simp [aY] at hr
 |x::xs,u::us,W,M,w,st,inv,hr=>by
  obtain⟨M1,a1,a2,a3⟩:=hf inv (hr.2 0 x u rfl rfl)
  have hr':aY M1.rel xs us:=⟨by simpa using hr.1,fun i a v h1 h2=>M.rel_mono a1 (hr.2 (i+1) a v (by simpa using h1) (by simpa using h2))⟩
  obtain⟨M2,b1,b2,b3⟩:=aAz hf xs us a2 hr'
  refine⟨M2,Mem.le_trans a1 b1,b2,?_⟩
  simp only[pJ]
  refine⟨by simp [b3.1],fun i a v h1 h2=>?_⟩
  cases i with
  |zero=>simp at h1 h2;subst h1;subst h2;exact M1.rel_mono b1 a3
  |succ i=>exact b3.2 i a v (by simpa using h1) (by simpa using h2)
theorem aA0: ∀d,Ur G (qU d)
 |0=>by
  intro inv hv
  exact⟨_,Mem.le_refl _,inv,hv⟩
 | d + 1=>by
  rename_i W M w v u st
  intro inv hv
  have ih:=aAz (aA0 d)
  unfold qU
  split
  ·rename_i cs
   cases hv with
   | @agg _ _ _ vs hs hr=>
    obtain⟨M',a1,a2,a3⟩:=ih cs vs.toList inv (aY.of_get (by simpa using hs) (fun i h1 h2=>by have:=hr i h1 (by simpa using h2);rwa [←Array.getElem_toList] at this))
    refine⟨M',a1,a2,.agg (by have:=a3.1;simpa using this.symm) (fun i h1 h2=>?_)⟩
    have:=a3.get i h1 (by simpa using h2)
    rwa [Array.getElem_toList] at this
  ·rename_i cs
   cases hv with
   | @tup _ _ _ vs hs hr=>
    obtain⟨M',a1,a2,a3⟩:=ih cs vs.toList inv (aY.of_get (by simpa using hs) (fun i h1 h2=>by have:=hr i h1 (by simpa using h2);rwa [←Array.getElem_toList] at this))
    refine⟨M',a1,a2,.tup (by have:=a3.1;simpa using this.symm) (fun i h1 h2=>?_)⟩
    have:=a3.get i h1 (by simpa using h2)
    rwa [Array.getElem_toList] at this
  ·rename_i key off n k
   split
   ·rename_i cs hk
    obtain⟨b,ob,g1,g2,g3,g4,g5⟩:=inv.live key _ hk
    cases ob<;>simp only[bY] at g3
    rename_i cur el fr
    obtain⟨hfr,k1,k2,k3⟩:=g3
    have hL:M.L key=some b:=by simpa [Mem.blockOf,aG.isTok] using g1
    obtain⟨M',a1,a2,a3⟩:=ih cs (cur.toList.take cs.length) inv (aY.of_get (by simp;omega) (fun i h1 h2=>by
     have:=k2 i h1 (by omega)
     simpa using this))
    simp only
    split
    ·rename_i old hk'
     obtain⟨b',ob',q1,q2,q3,q4,q5⟩:=a2.live key _ hk'
     have hL':M'.L key=some b:=a1.L _ _ hL
     have hb:b'=b:=by simpa [Mem.blockOf,aG.isTok,hL'] using q1.symm
     subst hb
     rw[g2] at q2;cases q2
     simp only[bY] at q3
     have hl:(pJ (qU d) cs st).1.length=cs.length:=by have:=a3.1;simp at this;omega
     have inv2:=a2.turn (w':=w) (new:= .cells (pJ (qU d) cs st).1) (ob:= .cells cur el fr) hk' hL' rfl rfl rfl rfl rfl (fun _ _=>rfl) g2
      ⟨hfr,by omega,fun i h1 h2=>by
       have:=a3.get i h1 (by simp;omega)
       simpa using this,q3.2.2.2⟩
     have inv3:Inv G M' (· < (pJ (qU d) cs st).2.nx) (St.hp ⟨hset (pJ (qU d) cs st).2.h key (.cells (pJ (qU d) cs st).1),(pJ (qU d) cs st).2.nx⟩) W w:=by
      have:St.hp ⟨hset (pJ (qU d) cs st).2.h key (.cells (pJ (qU d) cs st).1),(pJ (qU d) cs st).2.nx⟩=cO (pJ (qU d) cs st).2.hp key (some (.cells (pJ (qU d) cs st).1)):=wI _ _ _
      rw[this];exact inv2
     obtain⟨M3,c1,c2,c3⟩:=aLz (st:=⟨hset (pJ (qU d) cs st).2.h key (.cells (pJ (qU d) cs st).1),(pJ (qU d) cs st).2.nx⟩) inv3 (M.rel_mono a1 hv)
     exact⟨M3,Mem.le_trans a1 c1,c2,c3⟩
    ·exact⟨M',a1,a2,M.rel_mono a1 hv⟩
   ·exact⟨M,M.le_refl,inv,hv⟩
  ·exact⟨M,M.le_refl,inv,hv⟩
theorem aHw (fz:Bool) (args:List AV) (n:Nat):Ur G (Je fz args n):=by
 intro W M w v u st inv hv
 have step: ∀(v:AV) (st:St) (M:Mem),Inv G M (· <st.nx) st.hp W w→M.rel v u→Inv G M (· < (aEk args n v st).nx) (aEk args n v st).hp W w:=by
  intro v st M inv _
  obtain⟨q1,q2⟩:=aLy args n v st
  exact(inv.more fun k (hk:k<st.nx)=>Nat.lt_of_lt_of_le hk q1).less q2
 unfold Je
 cases fz with
 |false=>
  simp only[Bool.false_eq_true,if_false]
  exact⟨M,M.le_refl,step v st M inv hv,hv⟩
 |true=>
  simp only[if_true]
  obtain⟨M',h1,h2,h3⟩:=aA0 9 inv hv
  exact⟨M',h1,step _ _ M' h2 h3,h3⟩
theorem Bo {F:Fence} {n:Nat} {fn:Func} {tmps:Array Value} {Q:Ending→World→Prop} {W:World} {s:List AV} {rs:List ResultVar} (hrs:rs=fn.results.toList) {M:Mem}: ∀(marks:List Nat) (defers:List Deferred) (st st':St) (w:World) (v:AV),
  nK M s tmps→Inv G M (· <st.nx) st.hp W w→defers.length=marks.length→(∀(i:Nat) key,marks[i]?=some key→ ∃l,M.L key=some l∧defers[i]?=some {target:= .collected l,args:= #[]})→
  tV marks st=some st'→tN P st'.hp s rs=some v→(∀u w',Inv G M (· <st'.nx) st'.hp W w'→M.rel v u→Q (.returned u) w')→LeavesInM F n P fn tmps Q defers .returning w
 |[],[],st,st',w,v,hrel,inv,_,_,h,hv,hQ=>by
  simp [tV] at h;subst h
  subst hrs
  obtain⟨u,h1,h2⟩:=aG1 inv hrel hv
  exact⟨u,h1,hQ u w inv h2⟩
 |[],_::_,_,_,_,_,_,_,hl,_,_,_,_=>by simp at hl
 |_::_,[],_,_,_,_,_,_,hl,_,_,_,_=>by simp at hl
 | k::ks,d::ds,st,st',w,v,hrel,inv,hl,hd,h,hv,hQ=>by
  unfold tV at h
  split at h
  ·rename_i hk
   obtain⟨l,hL,he⟩:=hd 0 k rfl
   simp only[List.getElem?_cons_zero,Option.some.injEq] at he
   subst he
   obtain⟨b,ob,g1,g2,g3,g4,g5⟩:=inv.live k _ hk
   have hb:b=l:=by simpa [Mem.blockOf,aG.isTok,hL] using g1.symm
   subst hb
   cases ob<;>simp only[bY] at g3
   subst g3
   have inv':=inv.turn (w':=w.putObj b (.deferred none)) (old:= .dfd true) (new:= .dfd false) (ob:= .deferred none) hk hL rfl rfl rfl rfl rfl
    (fun q hq=>by simp [World.putObj,Array.getElem?_setIfInBounds,Ne.symm hq]) (by simp [World.putObj,lt_of_heap g2]) rfl
   refine⟨by simp,.inl ⟨b,_,rfl,run_takeDeferred g2,?_⟩⟩
   refine Bo hrs ks ds ⟨hset st.h k (.dfd false),st.nx⟩ st' _ v hrel ?_ (by simpa using hl) (fun i key hi=>by simpa using hd (i+1) key (by simpa using hi)) h hv hQ
   have:St.hp ⟨hset st.h k (.dfd false),st.nx⟩=cO st.hp k (some (.dfd false)):=wI _ _ _
   rw[this];exact inv'
  ·cases h
theorem qV {F:Fence} (hF:Free F) (hr:F.round=none) (hname: ∀(f:Nat) (fn:Func),P.funcs[f]?=some fn→fn.name≠ "runtime.NumGoroutine") {W:World} {ok:R→Prop} {H:Hand R} (hH:uU F P G W ok H) {fin:List AV→Nat→AV→St→AV×St} (hfin: ∀args n,Ur G (fin args n)) {f:FuncId} {args:List AV} {K:AV→St→R} {st:St}
  (h:ok (pX P G H fin f args K st)):aO F P G W f args (fun v st=>ok (K v st)) st:=by
 intro M w vs inv hargs
 unfold pX at h
 split at h
 ·rename_i fn hfn
  split at h
  ·rename_i c hc
   refine⟨⟨fn,hfn,by simp [hc],hname f fn hfn⟩,fun n=>?_⟩
   refine callsIn_of_wp_marks hfn hc (hF.fn f) ?_ hr
   have sim:uT G W M (sO fn.ntmps args) st {tmps:=vs++Array.replicate (fn.ntmps - vs.size) undef,defers:=[]} w:=by
    refine⟨inv,?_,⟨rfl,fun i key hi=>by simp [sO] at hi⟩⟩
    have hsz:vs.size=args.length:=by have:=hargs.1;simp at this;exact this.symm
    refine⟨by simp [sO,hsz],fun i h1 h2=>?_⟩
    simp only[sO,List.length_append,List.length_replicate] at h1
    by_cases hi:i<args.length
    ·simp only[sO]
     rw[List.getElem_append_left hi,Array.getElem_append_left (by omega)]
     exact hargs.getA i hi (by omega)
    ·simp only[sO]
     rw[List.getElem_append_right (by omega)]
     simp only[List.getElem_replicate]
     exact .ud
   refine wpIn_mono (qM hF hH c _ _ _ h M _ w n sim) ?_
   rintro e a w' ⟨M',fr,st',x,hM,sim',rfl,hk⟩
   have leave:ok (lQ P H fn.results.toList (fin args st.nx) K .ret fr st')→LeavesInM F n P fn a.tmps (fun e w'=> ∃M' v av st',e= .returned v∧M.le M'∧Inv G M' (· <st'.nx) st'.hp W w'∧M'.rel av v∧ok (K av st')) a.defers .returning w':=by
    intro hk
    simp only[lQ] at hk
    split at hk
    ·rename_i st'' hst
     split at hk
     ·rename_i v hv
      refine Bo rfl fr.marks a.defers st' st'' w' v sim'.rs sim'.inv sim'.defers.1 sim'.defers.2 hst hv ?_
      intro u w2 inv2 hu
      obtain⟨M2,q1,q2,q3⟩:=hfin args st.nx inv2 hu
      exact⟨M2,u,_,_,rfl,Mem.le_trans hM q1,q2,q3,hk⟩
     ·exact absurd hk hH.fail
    ·exact absurd hk hH.fail
   cases x with
   |normal=>exact leave hk
   |ret=>exact leave hk
   |exit id=>exact absurd hk hH.fail
   |goto l=>exact absurd hk hH.fail
  ·exact absurd h hH.fail
 ·exact absurd h hH.fail
end Go.Proofs.Pv
namespace Go.Proofs.Pv
open Go
variable {P:Program} {G:Nat→Option (List AV)}
theorem aP.pureV {I:jH} {L:Lo} {T:To} {a:AV} {v:Value} (h:aP I L T a v) (hp:a.pureV=true):aP I jM noT a v:=by
 by_cases hg: ∃cs,a= .agg cs
 ·obtain⟨cs,rfl⟩:=hg
  cases h with
  |agg hs hr=>
   simp only[AV.pureV,List.all_eq_true] at hp
   exact .agg hs (fun i h h'=>(hr i h h').pure (hp _ (List.getElem_mem h)))
 ·have:a.pureV=a.pure:=by cases a<;>first|rfl|exact absurd ⟨_,rfl⟩ hg
  rw[this] at hp;exact h.pure hp
theorem aP.pureR {I:jH} {L:Lo} {T:To} {a:AV} {v:Value} (h:aP I L T a v) (hp:a.pureR=true):aP I jM noT a v:=by
 by_cases hg: ∃cs,a= .tup cs
 ·obtain⟨cs,rfl⟩:=hg
  cases h with
  |tup hs hr=>
   simp only[AV.pureR,List.all_eq_true] at hp
   exact .tup hs (fun i h h'=>(hr i h h').pureV (hp _ (List.getElem_mem h)))
 ·have:a.pureR=a.pureV:=by cases a<;>first|rfl|exact absurd ⟨_,rfl⟩ hg
  rw[this] at hp;exact h.pureV hp
theorem aP.stripR {I:jH} {L:Lo} {T:To} {a:AV} {v:Value} (h:aP I L T a v):aP I L T a.stripR v:=by
 by_cases hg: ∃cs,a= .tup cs
 ·obtain⟨cs,rfl⟩:=hg
  cases h with
  |tup hs hr=>exact .tup (by simpa using hs) (fun i h h'=>by simpa using(hr i (by simpa using h) h').strip)
 ·have:a.stripR=a.strip:=by cases a<;>first|rfl|exact absurd ⟨_,rfl⟩ hg
  rw[this];exact h.strip
def st0:St:=⟨[],0⟩
def PC (P:Program) (G:Nat→Option (List AV)) (f:FuncId) (args:List AV) (R:AV→Prop):Prop:=
  ∀ (F:Fence),Free F→F.round=none→ ∀(W:World) (M:Mem) (w:World) (vs:Array Value),M.L=jM→M.T=noT→Inv G M (fun _=>False) (fun _=>none) W w→aY (aP M.I jM noT) args vs.toList→
    (∃fn,P.funcs[f]?=some fn∧fn.body.isSome=true∧fn.name≠ "runtime.NumGoroutine")∧
    ∀n,CallsIn F n P f vs w fun e w'=> ∃M' v av,e= .returned v∧M.le M'∧Inv G M' (fun _=>True) (fun _=>none) W w'∧aP M'.I jM noT av v∧R av
theorem PC.mono {f:FuncId} {args:List AV} {R R':AV→Prop} (h:PC P G f args R) (hr: ∀v,R v→R' v):PC P G f args R':=by
 intro F hF hro W M w vs hL hT inv hargs
 obtain⟨h1,h2⟩:=h F hF hro W M w vs hL hT inv hargs
 refine⟨h1,fun n=>(h2 n).mono ?_⟩
 rintro e w' ⟨M',v,av,g1,g2,g3,g4,g5⟩
 exact⟨M',v,av,g1,g2,g3,g4,hr _ g5⟩
theorem PC.callG {F:Fence} (hF:Free F) {W:World} {f:FuncId} {args:List AV} {R:AV→Prop} (h:PC P G f (args.map AV.plain) R) {al:Nat→Prop} {hp0:Hp} {M:Mem} {w:World} {vs:Array Value} (inv:Inv G M al hp0 W w) (hargs:aY M.rel args vs.toList):
  (∃fn,P.funcs[f]?=some fn∧fn.body.isSome=true∧fn.name≠ "runtime.NumGoroutine")∧
  ∀n,CallsIn F n P f vs w fun e w'=> ∃M' v av,e= .returned v∧M.le M'∧Inv G M' al hp0 W w'∧M'.rel av v∧R av:=by
 let M0:Mem:= {I:=M.I,L:=jM,T:=noT,F:=fun b=>w.heap[b]?}
 have inv0:Inv G M0 (fun _=>False) (fun _=>none) W w:=by
  constructor
  ·exact inv.imm
  ·exact fun b ob h=>h
  ·exact inv.os
  ·exact inv.tape
  ·exact inv.out
  ·exact fun key _=>⟨rfl,rfl⟩
  ·intro key blk h;cases h
  ·intro k1 k2 b1 b2 b h;cases h
  ·exact inv.glob
  ·intros;trivial
 have hargs0:aY (aP M0.I jM noT) (args.map AV.plain) vs.toList:=by
  refine⟨by simpa using hargs.1,fun i a v h1 h2=>?_⟩
  rw[List.getElem?_map] at h1
  cases ha:args[i]? with
  |none=>rw[ha] at h1;cases h1
  |some a0=>
   rw[ha] at h1
   simp only[Option.map_some,Option.some.injEq] at h1
   subst h1
   exact(hargs.2 i a0 v ha h2).plain
 obtain⟨g1,g2⟩:=h F.plain ⟨hF.fn,hF.depth⟩ rfl W M0 w vs rfl rfl inv0 hargs0
 replace g2: ∀n,CallsIn F n P f vs w _:=g2
 refine⟨g1,fun n=>(g2 n).mono ?_⟩
 rintro e w' ⟨M',v,av,rfl,hle,inv',hv,hR⟩
 have hold: ∀b ob,w.heap[b]?=some ob→w'.heap[b]?=some ob:=fun b ob hb=>inv'.far b ob (hle.F b ob hb)
 have hIold: ∀b o,b<w.heap.size→M'.I b o=M.I b o:=fun b o hb=>hle.IF b o (by show w.heap[b]?≠none;simp [hb])
 let M2:Mem:= {I:=M'.I,L:=M.L,T:=M.T,F:=M.F}
 have hle2:M.le M2:=⟨fun b o v hb=>hle.I b o v hb,fun _ _ h=>h,fun _ _ h=>h,fun _ _ h=>h,fun b o hf=>by
  cases hb:M.F b with
  |none=>exact absurd hb hf
  |some ob=>exact hIold b o (inv.lt_F hb)⟩
 refine⟨M2,v,av,rfl,hle2,?_,hv.of_pure,hR⟩
 constructor
 ·exact inv'.imm
 ·exact fun b ob hb=>hold b ob (inv.far b ob hb)
 ·exact inv'.os
 ·exact inv'.tape
 ·exact inv'.out
 ·exact inv.fresh
 ·intro key blk hb
  obtain⟨b,ob,k1,k2,k3,k4,k5⟩:=inv.live key blk hb
  have hlt:=lt_of_heap k2
  refine⟨b,ob,k1,hold b ob k2,k3.grow hle2 (fun ht b' e z hT o ho=>?_),k4,fun ht o=>?_⟩
  ·cases blk<;>simp [aG.isTok] at ht
   cases ob<;>simp only[bY] at k3
   obtain⟨_,b1,e1,z1,r1,_,_,r4⟩:=k3
   rw[hT] at r1;cases r1
   have:b=b':=by simpa [Mem.blockOf,aG.isTok,hT] using k1.symm
   subst this
   show M'.I b o=none
   rw[hIold b o hlt];exact r4 o ho
  ·show M'.I b o=none
   rw[hIold b o hlt];exact k5 ht o
 ·exact inv.inj
 ·exact inv'.glob
 ·intros;trivial
theorem PC.callOk {F:Fence} (hF:Free F) {W:World} {f:FuncId} {args:List AV} {R:AV→Prop} (h:PC P G f (args.map AV.plain) R) {K:AV→St→Prop} {st:St} (hK: ∀v,R v→K v st):
  aO F P G W f args K st:=by
 intro M w vs inv hargs
 obtain⟨g1,g2⟩:=h.callG hF inv hargs
 refine⟨g1,fun n=>(g2 n).mono ?_⟩
 rintro e w' ⟨M',v,av,rfl,hle,inv',hv,hR⟩
 exact⟨M',v,av,st,rfl,hle,inv',hv,hK av hR⟩
def SH (F:Fence) (P:Program) (G:Nat→Option (List AV)) (W:World):Hand Prop where
  fail:=False
  call:=fun f args K st=>qI F P G W f args K st
  loop:=fun c K fr st=>sD F P G W (.loop c) K fr st
  yield:=fun key args K st=> ∀M w vs,Inv G M (· <st.nx) st.hp W w→aY M.rel args vs.toList→ ∀l,M.L key=some l→
    ∃ f tmps assign body,(Instr.yield l vs).run P w= .ok (.round l f tmps assign body) w∧
      ∀n,RoundIn F n P l f tmps assign body w fun e w'=> ∃M' v av st',e= .returned v∧M.le M'∧Inv G M' (· <st'.nx) st'.hp W w'∧M'.rel av v∧K av st'
  rangeF:=fun f ps assign body K fr st=>sD F P G W (.rangeFunc f ps assign body) K fr st
  draw:=fun ops K fr st=> ∀id,sD F P G W (.region id ops true) (fun x fr st=>match x with| .normal=>K fr st|_=>False) fr st
  both:=fun l=> ∀x∈l,x
theorem aQ5 (F:Fence) (W:World):uU F P G W id (SH F P G W):=
 ⟨fun h=>h,fun _ _ _ _ h=>h,fun _ _ _ _ h=>h,fun _ _ _ _ h=>h,fun _ _ _ _ _ _ _ h=>h,fun id _ _ _ _ h=>h id,fun _ h=>h⟩
theorem PC.of_callOk {f:FuncId} {args:List AV} {R:AV→Prop} (h: ∀(F:Fence),Free F→F.round=none→ ∀W,aO F P G W f args (fun v _=>v.stripR.pureR=true∧R v.stripR) st0):PC P G f args R:=by
 intro F hF hro W M w vs hL hT inv hargs
 have hinv:Inv G M (· <st0.nx) st0.hp W w:=by
  refine⟨inv.imm,inv.far,inv.os,inv.tape,inv.out,fun key _=>by rw[hL,hT];exact⟨rfl,rfl⟩,fun k b hk=>(by cases hk),fun k1 k2 b1 b2 b hk=>(by cases hk),inv.glob,fun _ _ _=>trivial⟩
 have hargs':aY M.rel args vs.toList:=aY.mono (fun a v hv=>hv.of_pure) hargs
 obtain⟨g1,g2⟩:=h F hF hro W M w vs hinv hargs'
 refine⟨g1,fun n=>(g2 n).mono ?_⟩
 rintro e w' ⟨M',v,av,st',rfl,hle,inv',hv,hp,hR⟩
 refine⟨M',v,av.stripR,rfl,hle,?_,aP.pureR (aP.stripR hv) hp,hR⟩
 exact(inv'.more fun _ _=>trivial).less fun k b hk=>by cases hk
theorem PC.introH (H:Fence→World→Hand Prop) (hH: ∀F,Free F→ ∀W,uU F P G W id (H F W)) {f:FuncId} {fn:Func} {c:Code} {args:List AV} {R:AV→Prop} (hf:P.funcs[f]?=some fn) (hb:fn.body=some c) (hname:fn.name≠ "runtime.NumGoroutine")
  (h: ∀(F:Fence),Free F→F.round=none→ ∀W,fA P G (H F W) c (lQ P (H F W) fn.results.toList (fun v st=>(v,st)) fun v _=>v.stripR.pureR=true∧R v.stripR) (sO fn.ntmps args) st0):PC P G f args R:=by
 refine PC.of_callOk fun F hF hro W=>?_
 have hrun:=h F hF hro W
 ·intro M w vs inv hargs
  refine⟨⟨fn,hf,by simp [hb],hname⟩,fun n=>?_⟩
  refine callsIn_of_wp_marks hf hb (hF.fn f) ?_ hro
  have sim:uT G W M (sO fn.ntmps args) st0 {tmps:=vs++Array.replicate (fn.ntmps - vs.size) undef,defers:=[]} w:=by
   refine⟨inv,?_,⟨rfl,fun i key hi=>by simp [sO] at hi⟩⟩
   have hsz:vs.size=args.length:=by have:=hargs.1;simp at this;exact this.symm
   refine⟨by simp [sO,hsz],fun i h1 h2=>?_⟩
   simp only[sO,List.length_append,List.length_replicate] at h1
   by_cases hi:i<args.length
   ·simp only[sO]
    rw[List.getElem_append_left hi,Array.getElem_append_left (by omega)]
    exact hargs.getA i hi (by omega)
   ·simp only[sO]
    rw[List.getElem_append_right (by omega)]
    simp only[List.getElem_replicate]
    exact .ud
  refine wpIn_mono (qM hF (hH F hF W) c _ _ _ hrun M _ w n sim) ?_
  rintro e a w' ⟨M',fr,st',x,hM,sim',rfl,hk⟩
  have leave:lQ P (H F W) fn.results.toList (fun v st=>(v,st)) (fun v _=>v.stripR.pureR=true∧R v.stripR) .ret fr st'→LeavesInM F n P fn a.tmps (fun e w'=> ∃(M':Mem) (v:Value) (av:AV) (st':St),e= .returned v∧M.le M'∧Inv G M' (· <st'.nx) st'.hp W w'∧M'.rel av v∧(av.stripR.pureR=true∧R av.stripR)) a.defers .returning w':=by
   intro hk
   simp only[lQ] at hk
   split at hk
   ·rename_i st'' hst
    split at hk
    ·rename_i v hv
     refine Bo rfl fr.marks a.defers st' st'' w' v sim'.rs sim'.inv sim'.defers.1 sim'.defers.2 hst hv ?_
     intro u w2 inv2 hu
     exact⟨M',u,v,st'',rfl,hM,inv2,hu,hk⟩
    ·exact absurd hk (hH F hF W).fail
   ·exact absurd hk (hH F hF W).fail
  cases x with
  |normal=>exact leave hk
  |ret=>exact leave hk
  |exit id=>exact absurd hk (hH F hF W).fail
  |goto l=>exact absurd hk (hH F hF W).fail
end Go.Proofs.Pv
