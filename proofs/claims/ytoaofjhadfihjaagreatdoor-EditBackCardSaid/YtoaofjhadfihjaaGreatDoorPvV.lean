/-
The abstract machine, part V: open proofs: loops by an invariant and a number that falls, drawn regions run in the order of the text, calls by their contracts.
Conditions: none but those that each statement names.
-/
import Derived.Test.YtoaofjhadfihjaaGreatDoorPvQ
import Derived.Deep.Slices
import Derived.OpenShut
import Derived.Below
import Derived.CallsIn
set_option linter.unusedVariables false
set_option linter.unusedSimpArgs false
set_option maxRecDepth 100000
set_option maxHeartbeats 16000000
namespace Go.Proofs.Pv
open Go
variable {P:Program} {G:Nat->Option (List AV)}
theorem exists_least {p:Nat->Prop}: ∀m,p m-> ∃k,p k/\ ∀j,p j->k<=j:=by
 intro m
 induction m using Nat.strongRecOn with
 | _ m ih=>
  intro h
  by_cases hs: ∃k,k<m/\p k
  ·obtain⟨k,h1,h2⟩:=hs
   exact ih k h1 h2
  ·exact⟨m,h,fun j hj=>Nat.le_of_not_lt fun hlt=>hs ⟨j,hlt,hj⟩⟩
open Classical in
noncomputable def least (p:Nat->Prop):Nat:=if h: ∃k,p k/\ ∀j,p j->k<=j then h.choose else 0
theorem xH {p:Nat->Prop} {m:Nat} (h:p m):p (least p)/\ ∀j,p j->least p<=j:=by
 have hx:=exists_least m h
 unfold least
 rw[dif_pos hx]
 exact hx.choose_spec
def kE:List Bool->List AV->List AV
 |b::bs,a::s=>(match b with
  |true=>a
  |false=> .ud)::kE bs s
 |_,s=>s
def Fr.fgt (mask:List Bool) (fr:Fr):Fr:=⟨kE mask fr.s,fr.marks⟩
theorem yK: ∀(m:List Bool) (s:List AV),(kE m s).length=s.length
 |[],s=>by cases s<;>rfl
 |_::_,[]=>rfl
 |b::bs,a::s=>by simp only[kE,List.length_cons,yK bs s]
theorem Ou {M:Mem}: ∀(m:List Bool) (s:List AV) (i:Nat) (v:Value) (h:i<s.length) (h':i< (kE m s).length),M.rel s[i] v->M.rel (kE m s)[i] v
 |[],s,i,v,h,h',hr=>by cases s<;>exact hr
 |_::_,[],i,v,h,_,_=>by simp at h
 |b::bs,a::s,0,v,h,h',hr=>by cases b<;>first|exact .ud|exact hr
 |b::bs,a::s,i+1,v,h,h',hr=>Ou bs s i v (by simpa using h) (by simpa [kE] using h') hr
theorem vP.fgt {W:World} {M:Mem} {fr:Fr} {st:St} {a:Act} {w:World} (sim:vP G W M fr st a w) (mask:List Bool):vP G W M (fr.fgt mask) st a w:=by
 refine⟨sim.inv,⟨by simp only[Fr.fgt,yK];exact sim.rs.1,fun i h h'=>?_⟩,sim.defers⟩
 have h2:i<fr.s.length:=by simpa [Fr.fgt,yK] using h
 exact Ou mask fr.s i _ h2 h (sim.rs.2 i h2 h')
def aJ3 (K:dU Prop) (mask:List Bool) (m:Nat) (I:Nat->Fr->Prop):dU Prop:=fun x fr' st'=>match x with
 | .normal=> ∃m',m'<m/\I m' (fr'.fgt mask)
 |x=>K x fr' st'
theorem aE6 {K:dU Prop} {mask:List Bool} {m:Nat} {I:Nat->Fr->Prop} {fr:Fr} {st:St}:aJ3 K mask m I .normal fr st= ∃m',m'<m/\I m' (fr.fgt mask):=rfl
theorem aJ4 {K:dU Prop} {mask:List Bool} {m:Nat} {I:Nat->Fr->Prop} {id:Nat} {fr:Fr} {st:St}:aJ3 K mask m I (.exit id) fr st=K (.exit id) fr st:=rfl
theorem aMx {K:dU Prop} {mask:List Bool} {m:Nat} {I:Nat->Fr->Prop} {fr:Fr} {st:St}:aJ3 K mask m I .ret fr st=K .ret fr st:=rfl
section
variable {R:Type} {H:Hand R}
def seqK (P:Program) (G:Nat->Option (List AV)) (H:Hand R) (b:Code) (K:dU R):dU R:=fun x fr st=>match x with
 | .normal=>fG P G H b K fr st
 |x=>K x fr st
theorem aG8 {b:Code} {K:dU R} {fr:Fr} {st:St}:seqK P G H b K .normal fr st=fG P G H b K fr st:=rfl
theorem aMy {b:Code} {K:dU R} {id:Nat} {fr:Fr} {st:St}:seqK P G H b K (.exit id) fr st=K (.exit id) fr st:=rfl
theorem aE7 {b:Code} {K:dU R} {fr:Fr} {st:St}:seqK P G H b K .ret fr st=K .ret fr st:=rfl
theorem aPz {a b:Code} {K:dU R} {fr:Fr} {st:St}:fG P G H (.seq a b) K fr st=fG P G H a (seqK P G H b K) fr st:=rfl
def Gw (id:Nat) (K:dU R):dU R:=fun x fr st=>match x with
 | .exit id'=>if id'=id then K .normal fr st else K (.exit id') fr st
 |x=>K x fr st
theorem aDz {id:Nat} {K:dU R} {fr:Fr} {st:St}:Gw id K .normal fr st=K .normal fr st:=rfl
theorem Zk {id:Nat} {K:dU R} {fr:Fr} {st:St}:Gw id K .ret fr st=K .ret fr st:=rfl
theorem aG9 {id:Nat} {K:dU R} {fr:Fr} {st:St}:Gw id K (.exit id) fr st=K .normal fr st:=by simp [Gw]
theorem Lj {id id':Nat} {K:dU R} {fr:Fr} {st:St} (h: ¬id'=id):Gw id K (.exit id') fr st=K (.exit id') fr st:=by simp [Gw,h]
theorem aJ5 {id:Nat} {c:Code} {K:dU R} {fr:Fr} {st:St}:fG P G H (.block id c) K fr st=fG P G H c (Gw id K) fr st:=rfl
def Et (H:Hand R) (v:AV) (a b:R):R:=match v with
 | .bool q=>if q then a else b
 |_=>H.fail
theorem aMz {c:Operand} {a b:Code} {K:dU R} {fr:Fr} {st:St}:fG P G H (.cond c a b) K fr st=Et H (ev P G fr.s 0 c) (fG P G H a K fr st) (fG P G H b K fr st):=by
 simp only[fG,Et]
 cases ev P G fr.s 0 c<;>rfl
theorem aM0 {K:dU R} {fr:Fr} {st:St}:fG P G H .skip K fr st=K .normal fr st:=rfl
theorem aM1 {id:Nat} {K:dU R} {fr:Fr} {st:St}:fG P G H (.exit id) K fr st=K (.exit id) fr st:=rfl
theorem aP0 {K:dU R} {fr:Fr} {st:St}:fG P G H .ret K fr st=K .ret fr st:=rfl
theorem aJ6 {l:Nat} {K:dU R} {fr:Fr} {st:St}:fG P G H (.label l) K fr st=K .normal fr st:=rfl
theorem aM2 {c:Code} {K:dU R} {fr:Fr} {st:St}:fG P G H (.loop c) K fr st=H.loop c K fr st:=rfl
def regK (K:dU R):Fr->St->R:=fun fr st=>K .normal fr st
theorem aTh {K:dU R} {fr:Fr} {st:St}:regK K fr st=K .normal fr st:=rfl
theorem aHa {id:Nat} {ops:Array Oper} {K:dU R} {fr:Fr} {st:St}:fG P G H (.region id ops false) K fr st=Ec P G H ops (regK K) ops.toList fr st:=rfl
theorem aM3 {id:Nat} {ops:Array Oper} {K:dU R} {fr:Fr} {st:St}:fG P G H (.region id ops true) K fr st=H.draw ops (regK K) fr st:=rfl
theorem aP1 {s:List AV} {m:List Nat} {d:Tmp} {v:AV}:Fr.put ⟨s,m⟩ (some d) v=⟨s.set d v,m⟩:=rfl
theorem aP2 {fr:Fr} {v:AV}:Fr.put fr none v=fr:=rfl
theorem aM4 {rs:List ResultVar} {fin:AV->St->AV×St} {K:AV->St->R} {s:List AV} {st:St}:mO P H rs fin K .ret ⟨s,[]⟩ st=match uN P st.hp s rs with
 |some v=>match fin v st with
  |(v',st'')=>K v' st''
 |none=>H.fail:=rfl
theorem aE8 {rs:List ResultVar} {fin:AV->St->AV×St} {K:AV->St->R} {s:List AV} {st:St}:mO P H rs fin K .normal ⟨s,[]⟩ st=match uN P st.hp s rs with
 |some v=>match fin v st with
  |(v',st'')=>K v' st''
 |none=>H.fail:=rfl
def gw (v:Option AV) (want:Bool):Option Bool:=match v with
 |some (.bool b)=>some (b==want)
 |some (.tup _)=>some false
 |_=>none
theorem aVp {l:List AV} {want:Bool}:gw (some (.tup l)) want=some false:=rfl
theorem aM5 {s:List AV} {d:Tmp} {v:AV}:gQ s (some d) v=s.set d v:=rfl
theorem aM6 {s:List AV} {v:AV}:gQ s none v=s:=rfl
theorem arrD0 {α:Type} {a d:α} {l:List α}:(List.toArray (a::l)).getD 0 d=a:=rfl
theorem arrD1 {α:Type} {a b d:α} {l:List α}:(List.toArray (a::b::l)).getD 1 d=b:=rfl
theorem aJ7 {k:IntKind} {n:Int}:AV.stripR (.int k n)= .int k n:=rfl
theorem aHb {b:Bool}:AV.stripR (.bool b)= .bool b:=rfl
theorem aM7 {k:Nat} {r:List AV} {t:Tk}:AV.stripR (.sl k r t)= .sl k r .none:=rfl
theorem aJ8 {q:ByteArray}:AV.stripR (.str q)= .str q:=rfl
theorem aM8 {k:IntKind} {n:Int}:AV.strip (.int k n)= .int k n:=rfl
theorem aJ9 {b:Bool}:AV.strip (.bool b)= .bool b:=rfl
theorem aP3 {k:Nat} {r:List AV} {t:Tk}:AV.strip (.sl k r t)= .sl k r .none:=rfl
theorem aM9 {q:ByteArray}:AV.strip (.str q)= .str q:=rfl
theorem aKa {k:IntKind} {n:Int}:AV.strip0 (.int k n)= .int k n:=rfl
theorem aHc {b:Bool}:AV.strip0 (.bool b)= .bool b:=rfl
theorem aNa {k:Nat} {r:List AV} {t:Tk}:AV.strip0 (.sl k r t)= .sl k r .none:=rfl
theorem aKb {q:ByteArray}:AV.strip0 (.str q)= .str q:=rfl
theorem aNb {k:IntKind} {n:Int}:AV.pureR (.int k n)=true:=rfl
theorem aKc {b:Bool}:AV.pureR (.bool b)=true:=rfl
theorem aNc {q:ByteArray}:AV.pureR (.str q)=true:=rfl
theorem aP4 {k:Nat} {r:List AV}:AV.pureR (.sl k r .none)=true:=rfl
theorem aNd {k:IntKind} {n:Int}:AV.pureV (.int k n)=true:=rfl
theorem aKd {b:Bool}:AV.pureV (.bool b)=true:=rfl
theorem aNe {q:ByteArray}:AV.pureV (.str q)=true:=rfl
theorem aP5 {k:Nat} {r:List AV}:AV.pureV (.sl k r .none)=true:=rfl
theorem aP6 {k:IntKind} {n:Int}:AV.pure (.int k n)=true:=rfl
theorem aNf {b:Bool}:AV.pure (.bool b)=true:=rfl
theorem aP7 {q:ByteArray}:AV.pure (.str q)=true:=rfl
theorem aTi {k:Nat} {r:List AV}:AV.pure (.sl k r .none)=true:=rfl
theorem aKe {cs:List AV}:AV.stripR (.agg cs)= .agg (cs.map AV.strip0):=rfl
theorem aNg {cs:List AV}:AV.strip (.agg cs)= .agg (cs.map AV.strip0):=rfl
theorem aKf {cs:List AV}:AV.stripR (.tup cs)= .tup (cs.map AV.strip):=rfl
theorem aNh {cs:List AV}:AV.pureR (.agg cs)=cs.all AV.pure:=rfl
theorem aNi {cs:List AV}:AV.pureV (.agg cs)=cs.all AV.pure:=rfl
theorem aNj {cs:List AV}:AV.pureR (.tup cs)=cs.all AV.pureV:=rfl
theorem aTj {h:List (Nat×aI)} {nx:Nat}:St.app ⟨h,nx⟩ []=⟨h,nx+1⟩:=rfl
theorem aTk {h:List (Nat×aI)} {nx:Nat} {b:aI}:St.app ⟨h,nx⟩ [(nx,some b)]=⟨(nx,b)::h,nx+1⟩:=by simp [St.app,Eb]
theorem aTl {h:List (Nat×aI)} {nx k:Nat} {b:aI} (hne: ¬k=nx):St.app ⟨h,nx⟩ [(k,some b)]=⟨hset h k b,nx+1⟩:=by simp [St.app,Eb,hne]
theorem aP8 {h:List (Nat×aI)} {k:Nat} {b0 b:aI}:hset ((k,b0)::h) k b=(k,b)::h:=by simp [hset]
theorem aTm {h:List (Nat×aI)} {k q:Nat} {b0 b:aI} (hne: ¬q=k):hset ((k,b0)::h) q b=(k,b0)::hset h q b:=by simp [hset,hne]
theorem hp_mk {h:List (Nat×aI)} {nx:Nat}:St.hp ⟨h,nx⟩=hget h:=rfl
theorem aP9 {h:List (Nat×aI)} {k:Nat} {b:aI}:hget ((k,b)::h) k=some b:=by simp [hget]
theorem bD {h:List (Nat×aI)} {k q:Nat} {b:aI} (hne: ¬q=k):hget ((k,b)::h) q=hget h q:=by simp [hget,hne]
structure kP where
 dst:Option Tmp
 op:Op
 type:TypeId
 guard:Option (Nat×Bool)
def kP.full (o:kP):Oper:=⟨o.dst,o.op,o.type, "", #[],o.guard⟩
def qP (o:Oper):kP:=⟨o.dst,o.op,o.type,o.guard⟩
def gdj (gds:List (Option Tmp)) (j:Nat):Option Tmp:=(gds[j]?).bind id
def oN (gds:List (Option Tmp)) (s:List AV):Option (Nat×Bool)->Option Bool
 |none=>some true
 |some (j,want)=>match gdj gds j with
  |some d=>gw s[d]? want
  |none=>none
theorem Eu {ops:Array Oper} {s:List AV} {o:Oper}:mV ops s o=oN (ops.toList.map (·.dst)) s o.guard:=by
 unfold mV oN
 cases o.guard with
 |none=>rfl
 | some g=>
  obtain⟨j,want⟩:=g
  have:gdj (ops.toList.map (·.dst)) j=(ops[j]?).bind (·.dst):=by
   unfold gdj
   rw[List.getElem?_map,Array.getElem?_toList]
   cases ops[j]?<;>rfl
  simp only[this]
  cases(ops[j]?).bind (·.dst) with
  |none=>rfl
  |some d=>
   simp only[gw]
   cases s[d]? with
   |none=>rfl
   |some v=>cases v<;>rfl
theorem aQa {s:List AV} {g:Hp} {nx:Nat} {o:Oper}:Rw P G s g nx o=Rw P G s g nx (qP o).full:=by
 obtain⟨a,b,c,d,e,f⟩:=o;rfl
theorem Sv {s:List AV} {g:Hp} {nx:Nat} {o:Oper}:jL P G s g nx o=jL P G s g nx (qP o).full:=by
 obtain⟨a,b,c,d,e,f⟩:=o;rfl
theorem aHd {o:Oper}:vJ o=vJ (qP o).full:=by
 obtain⟨a,b,c,d,e,f⟩:=o;rfl
def lF (P:Program) (G:Nat->Option (List AV)) (H:Hand R) (gds:List (Option Tmp)) (K:Fr->St->R):List kP->Fr->St->R
 |[],fr,st=>K fr st
 | o::rest,fr,st=>
  match oN gds fr.s o.guard with
  |none=>H.fail
  |some false=>lF P G H gds K rest (fr.put o.dst uu) st
  |some true=>match Rw P G fr.s st.hp st.nx o.full with
   |none=>H.fail
   |some (.val v u)=>lF P G H gds K rest (fr.put o.dst v) (st.app u)
   |some (.skip u)=>lF P G H gds K rest (fr.put o.dst uu) (st.app u)
   |some (.call f args)=>H.call f args (fun v st'=>lF P G H gds K rest (fr.put o.dst v) st') st
   |some (.yield key args)=>H.yield key args (fun v st'=>lF P G H gds K rest (fr.put o.dst v) st') st
   |some (.branch l)=>H.both (l.map fun x=>lF P G H gds K rest (fr.put o.dst x.1) (st.app x.2))
theorem Zl {ops:Array Oper} {K:Fr->St->R}: ∀(l:List Oper) (fr:Fr) (st:St),Ec P G H ops K l fr st=lF P G H (ops.toList.map (·.dst)) K (l.map qP) fr st
 |[],_,_=>rfl
 | o::rest,fr,st=>by
  simp only[List.map_cons,lF,Ec,aI6,aDe,aI7,Eu,<-aQa,Zl rest]
  show _=(match oN (ops.toList.map (·.dst)) fr.s o.guard with
   |none=>H.fail
   |some false=>_
   |some true=>_)
  cases oN (ops.toList.map (·.dst)) fr.s o.guard with
  |none=>rfl
  | some c=>
   cases c with
   |false=>rfl
   |true=>
    simp only[if_true]
    cases Rw P G fr.s st.hp st.nx o with
    |none=>rfl
    |some r=>cases r<;>rfl
theorem aE9 {id:Nat} {ops:Array Oper} {K:dU R} {fr:Fr} {st:St}:fG P G H (.region id ops false) K fr st=lF P G H (ops.toList.map (·.dst)) (regK K) (ops.toList.map qP) fr st:=by
 rw[aHa,Zl]
theorem aTn {dst:Option Tmp} {op:Op} {ty:TypeId} {pos:String} {after:Array Edge} {g:Option (Nat×Bool)}:qP ⟨dst,op,ty,pos,after,g⟩=⟨dst,op,ty,g⟩:=rfl
def sK (P:Program) (G:Nat->Option (List AV)) (H:Hand R) (gds:List (Option Tmp)) (K:Fr->St->R) (rest:List kP) (d:Option Tmp) (fr:Fr):AV->St->R:=fun v st=>lF P G H gds K rest (fr.put d v) st
theorem sK_at {gds:List (Option Tmp)} {K:Fr->St->R} {rest:List kP} {d:Option Tmp} {fr:Fr} {v:AV} {st:St}:sK P G H gds K rest d fr v st=lF P G H gds K rest (fr.put d v) st:=rfl
def nR (P:Program) (G:Nat->Option (List AV)) (H:Hand R) (gds:List (Option Tmp)) (K:Fr->St->R) (rest:List kP) (d:Option Tmp) (fr:Fr) (st:St) (c:Option Bool) (r:Option kK):R:=
 match c with
 |none=>H.fail
 |some false=>lF P G H gds K rest (fr.put d uu) st
 |some true=>match r with
  |none=>H.fail
  |some (.val v u)=>lF P G H gds K rest (fr.put d v) (st.app u)
  |some (.skip u)=>lF P G H gds K rest (fr.put d uu) (st.app u)
  |some (.call f args)=>H.call f args (sK P G H gds K rest d fr) st
  |some (.yield key args)=>H.yield key args (sK P G H gds K rest d fr) st
  |some (.branch l)=>H.both (l.map fun x=>lF P G H gds K rest (fr.put d x.1) (st.app x.2))
theorem aNk {gds:List (Option Tmp)} {K:Fr->St->R} {fr:Fr} {st:St}:lF P G H gds K [] fr st=K fr st:=rfl
theorem aKg {gds:List (Option Tmp)} {K:Fr->St->R} {dst:Option Tmp} {op:Op} {ty:TypeId} {g:Option (Nat×Bool)} {rest:List kP} {fr:Fr} {st:St}:
  lF P G H gds K (⟨dst,op,ty,g⟩::rest) fr st=nR P G H gds K rest dst fr st (oN gds fr.s g) (Rw P G fr.s st.hp st.nx ⟨dst,op,ty, "", #[],g⟩):=by
 rfl
theorem aQb {gds:List (Option Tmp)} {K:Fr->St->R} {rest:List kP} {d:Option Tmp} {fr:Fr} {st:St} {r:Option kK}:nR P G H gds K rest d fr st (some false) r=lF P G H gds K rest (fr.put d uu) st:=rfl
theorem aNl {gds:List (Option Tmp)} {K:Fr->St->R} {rest:List kP} {d:Option Tmp} {fr:Fr} {st:St} {v:AV} {u:List (Nat×Option aI)}:nR P G H gds K rest d fr st (some true) (some (.val v u))=lF P G H gds K rest (fr.put d v) (st.app u):=rfl
theorem aKh {gds:List (Option Tmp)} {K:Fr->St->R} {rest:List kP} {d:Option Tmp} {fr:Fr} {st:St} {u:List (Nat×Option aI)}:nR P G H gds K rest d fr st (some true) (some (.skip u))=lF P G H gds K rest (fr.put d uu) (st.app u):=rfl
theorem aKi {gds:List (Option Tmp)} {K:Fr->St->R} {rest:List kP} {d:Option Tmp} {fr:Fr} {st:St} {f:FuncId} {args:List AV}:nR P G H gds K rest d fr st (some true) (some (.call f args))=H.call f args (sK P G H gds K rest d fr) st:=rfl
theorem aFa {gds:List (Option Tmp)} {s:List AV}:oN gds s none=some true:=rfl
theorem aFb {gds:List (Option Tmp)} {s:List AV} {j:Nat} {want:Bool}:oN gds s (some (j,want))=match gdj gds j with
 |some d=>gw s[d]? want
 |none=>none:=rfl
theorem aQc {a:Option Tmp} {l:List (Option Tmp)}:gdj (a::l) 0=a:=rfl
theorem aQd {a:Option Tmp} {l:List (Option Tmp)} {n:Nat}:gdj (a::l) (n+1)=gdj l n:=rfl
theorem gwT {b:Bool}:gw (some (.bool b)) true=some b:=by cases b<;>rfl
theorem gwF {b:Bool}:gw (some (.bool b)) false=some (!b):=by cases b<;>rfl
def uS (P:Program) (G:Nat->Option (List AV)) (gds:List (Option Tmp)) (K:List AV->Prop) (g:Hp):List kP->List AV->Prop
 |[],s=>K s
 | o::rest,s=>match oN gds s o.guard with
  |none=>False
  |some false=>uS P G gds K g rest (gQ s o.dst uu)
  |some true=>match jL P G s g 0 o.full with
   |some (.val v [])=>uS P G gds K g rest (gQ s o.dst v)
   |some (.call f args)=>vJ o.full=true/\ ∃r,Pl P G f args r/\uS P G gds K g rest (gQ s o.dst r)
   |_=>False
theorem Ov {ops:Array Oper} {K:List AV->Prop} {g:Hp}: ∀(l:List Oper) (s:List AV),Dt P G ops K g l s=uS P G (ops.toList.map (·.dst)) K g (l.map qP) s
 |[],_=>rfl
 |o::rest,s=>by
  simp only[List.map_cons,uS,Dt,Eu,<-Sv,<-aHd,Ov rest]
  rfl
def qE (P:Program) (G:Nat->Option (List AV)) (gds:List (Option Tmp)) (K:List AV->Prop) (g:Hp) (rest:List kP) (d:Option Tmp) (s:List AV) (ic:Bool) (c:Option Bool) (r:Option kK):Prop:=
 match c with
 |none=>False
 |some false=>uS P G gds K g rest (gQ s d uu)
 |some true=>match r with
  |some (.val v [])=>uS P G gds K g rest (gQ s d v)
  |some (.call f args)=>ic=true/\ ∃r,Pl P G f args r/\uS P G gds K g rest (gQ s d r)
  |_=>False
theorem aNm {gds:List (Option Tmp)} {K:List AV->Prop} {g:Hp} {s:List AV}:uS P G gds K g [] s=K s:=rfl
theorem aKj {gds:List (Option Tmp)} {K:List AV->Prop} {g:Hp} {dst:Option Tmp} {op:Op} {ty:TypeId} {gd:Option (Nat×Bool)} {rest:List kP} {s:List AV}:
  uS P G gds K g (⟨dst,op,ty,gd⟩::rest) s=qE P G gds K g rest dst s (vJ ⟨dst,op,ty, "", #[],gd⟩) (oN gds s gd) (jL P G s g 0 ⟨dst,op,ty, "", #[],gd⟩):=by
 rfl
theorem aNn {gds:List (Option Tmp)} {K:List AV->Prop} {g:Hp} {rest:List kP} {d:Option Tmp} {s:List AV} {ic:Bool} {r:Option kK}:qE P G gds K g rest d s ic (some false) r=uS P G gds K g rest (gQ s d uu):=rfl
theorem aKk {gds:List (Option Tmp)} {K:List AV->Prop} {g:Hp} {rest:List kP} {d:Option Tmp} {s:List AV} {ic:Bool} {v:AV}:qE P G gds K g rest d s ic (some true) (some (.val v []))=uS P G gds K g rest (gQ s d v):=rfl
theorem dK {gds:List (Option Tmp)} {K:List AV->Prop} {g:Hp} {rest:List kP} {d:Option Tmp} {s:List AV} {f:FuncId} {args args':List AV} {r:AV} (h:PC P G f args' (fun v=>v=r)) (he:args.map AV.plain=args') (hk:uS P G gds K g rest (gQ s d r)):
  qE P G gds K g rest d s true (some true) (some (.call f args)):=by
 subst he
 exact⟨rfl,r,h,hk⟩
def aKl (K:Fr->St->Prop) (marks:List Nat) (st:St):List AV->Prop:=fun s=>K ⟨s,marks⟩ st
theorem aQe {K:Fr->St->Prop} {marks:List Nat} {st:St} {s:List AV}:aKl K marks st s=K ⟨s,marks⟩ st:=rfl
end
end Go.Proofs.Pv
namespace Go.Proofs.Pv
open Go
variable {P:Program} {G:Nat->Option (List AV)}
def aKr (K:dU Prop) (mask:List Bool) (m:Nat) (I:Nat->Fr->St->Prop):dU Prop:=fun x fr' st'=>match x with
 | .normal=> ∃m',m'<m/\I m' (fr'.fgt mask) st'
 |x=>K x fr' st'
theorem aFk {K:dU Prop} {mask:List Bool} {m:Nat} {I:Nat->Fr->St->Prop} {fr:Fr} {st:St}:aKr K mask m I .normal fr st= ∃m',m'<m/\I m' (fr.fgt mask) st:=rfl
theorem aKs {K:dU Prop} {mask:List Bool} {m:Nat} {I:Nat->Fr->St->Prop} {id:Nat} {fr:Fr} {st:St}:aKr K mask m I (.exit id) fr st=K (.exit id) fr st:=rfl
theorem aNx {K:dU Prop} {mask:List Bool} {m:Nat} {I:Nat->Fr->St->Prop} {fr:Fr} {st:St}:aKr K mask m I .ret fr st=K .ret fr st:=rfl
theorem aTv {h:List (Nat×aI)} {nx q:Nat} {b:aI}:St.app ⟨h,nx⟩ [(q,none),(nx,some b)]=⟨(nx,b)::hdel h q,nx+1⟩:=by simp [St.app,Eb]
theorem rZ {h:List (Nat×aI)} {q k:Nat} (hne: ¬k=q):hget (hdel h q) k=hget h k:=by rw[pY];simp [dC,hne]
end Go.Proofs.Pv
namespace Go.Proofs.Pv
open Go Go.ChangeShapes Go.WideShapes
variable {P:Program} {H:Type} {enc:TypeId×Value->H} {w:World} {spare:Nat->Bool} {held:Bool}
def pre (P:Program) (ts:List TypeId) (i:Nat):Nat:=((ts.take i).map P.cellsOf).sum
def aRy (P:Program) (fs:Array Field) (n:Nat):Bool:=
 ((List.range fs.size).all fun i=>match fs[i]? with
  |some f=>Nat.beq f.offset (pre P (fs.toList.map (·.type)) i)
  |none=>false) && Nat.beq n (pre P (fs.toList.map (·.type)) fs.size)
def Bq (P:Program):Nat->TypeId->Bool
 |0,_=>false
 |d+1,t=>match P.underlying t with
  |some .bool|some (.int _)|some .string=>Nat.beq (P.cellsOf t) 1
  |some (.slice e)=>Bq P d e && Nat.blt 0 (P.cellsOf e) && Nat.beq (P.cellsOf t) 1
  |some (.struct fs)=>(fs.toList.all fun f=>Bq P d f.type) && aRy P fs (P.cellsOf t)
  |some (.array n e)=>Bq P d e && Nat.beq (P.cellsOf t) (n*P.cellsOf e)
  |_=>false
def mkRow (P:Program) (e:TypeId) (cs:List AV):AV:=if ag P e then .agg cs else cs.headD .ud
def Xp (av:TypeId->DataW H->List AV):List TypeId->List (DataW H)->List AV
 |t::ts,y::ys=>av t y++Xp av ts ys
 |_,_=>[]
def sZ (P:Program):Nat->TypeId->DataW H->List AV
 |0,_,_=>[]
 |d+1,t,x=>match P.underlying t,x with
  |some .bool,.lit (.bool b)=>[.bool b]
  |some (.int k),.lit (.int _ n)=>[.int k n]
  |some .string,.lit (.string l)=>[.str ⟨l.toArray⟩]
  |some (.slice e),.slice elems _=>[.sl (P.cellsOf e) (elems.map fun y=>mkRow P e (sZ P d e y)) .none]
  |some (.slice e),_=>[.sl (P.cellsOf e) [] .none]
  |some (.struct fs),.agg parts=>Xp (sZ P d) (fs.toList.map (·.type)) parts
  |some (.array n e),.agg parts=>Xp (sZ P d) (List.replicate n e) parts
  |_,_=>[]
def nO (P:Program) (ok:TypeId->List AV->Prop):List TypeId->List AV->Prop
 |[],as=>as=[]
 |t::ts,as=>ok t (as.take (P.cellsOf t))/\nO P ok ts (as.drop (P.cellsOf t))
def okV (P:Program):Nat->TypeId->List AV->Prop
 |0,_,_=>False
 |d+1,t,as=>match P.underlying t with
  |some .bool=> ∃b,as=[.bool b]
  |some (.int k)=> ∃n,as=[.int k n]/\(Lit.int k n).wf=true
  |some .string=> ∃s:ByteArray,as=[.str s]/\s.size<=maxLen
  |some (.slice e)=> ∃rows,as=[.sl (P.cellsOf e) rows .none]/\rows.length<=maxLen/\ ∀r∈rows,∃cs,r=mkRow P e cs/\okV P d e cs
  |some (.struct fs)=>nO P (okV P d) (fs.toList.map (·.type)) as
  |some (.array n e)=>nO P (okV P d) (List.replicate n e) as
  |_=>False
theorem Si {ok:TypeId->List AV->Prop} (h: ∀t as,ok t as-> ∀a∈as,a.pure=true): ∀(ts:List TypeId) (as:List AV),nO P ok ts as-> ∀a∈as,a.pure=true
 |[],as,hk,a,ha=>by simp only[nO] at hk;subst hk;cases ha
 |t::ts,as,hk,a,ha=>by
  simp only[nO] at hk
  rw[<-List.take_append_drop (P.cellsOf t) as] at ha
  rcases List.mem_append.1 ha with ha|ha
  ·exact h t _ hk.1 a ha
  ·exact Si h ts _ hk.2 a ha
theorem Xq: ∀(d:Nat) (t:TypeId) (as:List AV),okV P d t as-> ∀a∈as,a.pure=true
 |0,_,_,h=>h.elim
 |d+1,t,as,h=>by
  unfold okV at h
  split at h
  ·obtain⟨b,rfl⟩:=h;intro a ha;simp at ha;subst ha;rfl
  ·obtain⟨n,rfl,_⟩:=h;intro a ha;simp at ha;subst ha;rfl
  ·obtain⟨s,rfl,_⟩:=h;intro a ha;simp at ha;subst ha;rfl
  ·obtain⟨rows,rfl,_⟩:=h;intro a ha;simp at ha;subst ha;rfl
  ·exact Si (Xq d) _ _ h
  ·exact Si (Xq d) _ _ h
  ·exact h.elim
theorem Jz {d:Nat} {e:TypeId} {cs:List AV} (h:okV P d e cs):(mkRow P e cs).cells=cs:=by
 cases d with
 |zero=>exact h.elim
 |succ d=>
  unfold mkRow ag
  unfold okV at h
  split at h<;>rename_i hu
  ·obtain⟨b,rfl⟩:=h;simp only[hu];rfl
  ·obtain⟨n,rfl,_⟩:=h;simp only[hu];rfl
  ·obtain⟨s,rfl,_⟩:=h;simp only[hu];rfl
  ·obtain⟨rows,rfl,_⟩:=h;simp only[hu];rfl
  ·simp only[hu];rfl
  ·simp only[hu];rfl
  ·exact h.elim
theorem aEw {R:AV->Value->Prop} {av:TypeId->DataW H->List AV} {ok:TypeId->List AV->Prop} {tr:TypeId->List Value->Option (DataW H×List MemPlace)}: ∀(ts:List TypeId) (xs:List (DataW H×List MemPlace)) (cs:List Value),
  (∀t∈ts,∀cs x,tr t cs=some x->bP R (av t x.1) cs/\ok t (av t x.1))->xs.length=ts.length->cs.length=pre P ts ts.length->(∀i t,ts[i]?=some t->tr t ((cs.drop (pre P ts i)).take (P.cellsOf t))=xs[i]?)->
  bP R (Xp av ts (xs.map (·.1))) cs/\nO P ok ts (Xp av ts (xs.map (·.1)))
 |[],[],cs,_,_,hl,_=>by
  have:cs=[]:=List.eq_nil_of_length_eq_zero (by simpa [pre] using hl)
  subst this
  exact⟨⟨rfl,fun i a v h=>by simp [Xp] at h⟩,rfl⟩
 |[],_::_,_,_,hx,_,_=>by simp at hx
 |_::_,[],_,_,hx,_,_=>by simp at hx
 | t::ts,x::xs,cs,ih,hx,hl,hf=>by
  have hpre: ∀i,pre P (t::ts) (i+1)=P.cellsOf t+pre P ts i:=fun i=>by simp [pre]
  have hl':cs.length=P.cellsOf t+pre P ts ts.length:=by rw[hl];exact hpre _
  have h0:=hf 0 t rfl
  simp only[pre,List.take_zero,List.map_nil,List.sum_nil,List.drop_zero,List.getElem?_cons_zero] at h0
  obtain⟨g1,g2⟩:=ih t (by simp) _ x h0
  obtain⟨k1,k2⟩:=aEw ts xs (cs.drop (P.cellsOf t)) (fun t ht=>ih t (by simp [ht])) (by simpa using hx) (by simp;omega) (fun i u hu=>by
   have:=hf (i+1) u (by simpa using hu)
   rw[hpre,<-List.drop_drop] at this
   simpa using this)
  have hlen:(av t x.1).length=P.cellsOf t:=by rw[g1.1];simp;omega
  simp only[List.map_cons,Xp,nO]
  refine⟨?_,?_,?_⟩
  ·have:=g1.append k1
   rwa [List.take_append_drop] at this
  ·rw[<-hlen,List.take_left];exact g2
  ·rw[<-hlen,List.drop_left];exact k2
def imm (w:World):jY:=fun b o=>w.cell? ⟨b,o,none⟩
theorem Ol: ∀(d:Nat) (t:TypeId) (fuel:Nat) (cs:List Value) (x:DataW H×List MemPlace),Bq P d t=true->DataW.trod enc P w 0 spare held fuel t cs=some x->
  bP (aQ (imm w) jZ noT) (sZ P d t x.1) cs/\okV P d t (sZ P d t x.1)
 |0,_,_,_,_,hp,_=>by simp [Bq] at hp
 | d + 1,t,fuel,cs,x,hp,h=>by
  have ih:=Ol d
  unfold Bq at hp
  have one: ∀ {a:AV} {v:Value},aQ (imm w) jZ noT a v->bP (aQ (imm w) jZ noT) [a] [v]:=fun {a v} hr=>⟨rfl,fun i a' v' h1 h2=>by
   cases i with
   |zero=>simp at h1 h2;subst h1;subst h2;exact hr
   |succ i=>simp at h1⟩
  split at hp
  ·rename_i hu
   obtain⟨b,rfl,rfl⟩:=DataW.trod_bool hu h
   simp only[sZ,okV,hu]
   exact⟨one .bool,_,rfl⟩
  ·rename_i k hu
   obtain⟨n,rfl,rfl,hwf⟩:=DataW.trod_int hu h
   simp only[sZ,okV,hu]
   exact⟨one .int,_,rfl,hwf⟩
  ·rename_i hu
   obtain⟨s,rfl,rfl,hs⟩:=DataW.trod_string hu h
   simp only[sZ,okV,hu]
   have:(⟨s.data.toList.toArray⟩:ByteArray)=s:=by simp
   rw[this]
   exact⟨one .str,_,rfl,hs⟩
  ·rename_i e hu
   simp only[Bool.and_eq_true] at hp
   obtain⟨⟨hpe,hk⟩,_⟩:=hp
   have hk0:0<P.cellsOf e:=by
    have:1<=P.cellsOf e:=by simpa [Nat.blt] using hk
    omega
   rcases Go.Deep.open_slice hu h with⟨rfl,rfl⟩|⟨a,len,cap,m,n,D,Pl,rfl,_,hle,hmax,hm,rfl,hel⟩
   ·simp only[sZ,okV,hu]
    exact⟨one (.sl (b:=0) (o:=0) (c:=0) (fun _=>undef) (Nat.le_refl _) (by simp) (fun q hq=>by simp at hq) (by simp) (by simp) (fun j i hj=>by simp at hj) trivial),[],rfl,by simp,by simp⟩
   ·simp only[sZ,okV,hu,List.map_map]
    have hlm: ∀i,i<len->i<m:=fun i hi=>by rw[hm];split<;>omega
    have hspot0:0<len->a.spot=none:=by
     intro h0
     obtain⟨cs',h1,_⟩:=hel 0 (hlm 0 h0)
     obtain⟨_,hlen,hcell⟩:=World.cells?_some h1
     have hv:=hcell 0 hk0
     have hlt:0<cs'.length:=by omega
     rw[List.getElem?_eq_getElem hlt] at hv
     simp only[Nat.zero_mul,Addr.add,if_true] at hv
     unfold World.cell? at hv
     split at hv
     ·split at hv
      ·cases hv
      ·rename_i hs;simpa using hs
     ·cases hv
    have hall: ∀i,i<len->bP (aQ (imm w) jZ noT) (sZ P d e (D i)) ((List.range (P.cellsOf e)).map fun j=>(w.cell? ⟨a.block,a.off+(i*P.cellsOf e+j),none⟩).getD undef)/\okV P d e (sZ P d e (D i))/\
      (∀j,j<P.cellsOf e-> ∃v,w.cell? ⟨a.block,a.off+(i*P.cellsOf e+j),none⟩=some v):=by
     intro i hi
     obtain⟨cs',h1,h2⟩:=hel i (hlm i hi)
     obtain⟨g1,g2⟩:=ih e n cs' _ hpe h2
     obtain⟨_,hlen,hcell⟩:=World.cells?_some h1
     have hspot:=hspot0 (by omega)
     have hat: ∀j,(a.add (i*P.cellsOf e)).add j=⟨a.block,a.off+(i*P.cellsOf e+j),none⟩:=by
      intro j
      obtain⟨b,o,sp⟩:=a
      simp only at hspot;subst hspot
      rw[Addr.add_none,Addr.add_none,Nat.add_assoc]
     have hcs:cs'=(List.range (P.cellsOf e)).map fun j=>(w.cell? ⟨a.block,a.off+(i*P.cellsOf e+j),none⟩).getD undef:=by
      apply List.ext_getElem?
      intro j
      by_cases hj:j<P.cellsOf e
      ·have:=hcell j hj
       rw[hat] at this
       simp [hj,this,List.getElem?_eq_getElem (show j<cs'.length by omega)]
      ·simp [hj,List.getElem?_eq_none (show cs'.length<=j by omega)]
     refine⟨by rw[<-hcs];exact g1,g2,fun j hj=>?_⟩
     have:=hcell j hj
     rw[hat] at this
     exact⟨_,this.trans (List.getElem?_eq_getElem (show j<cs'.length by omega))⟩
    have hrl:((List.range len).map ((fun y=>mkRow P e (sZ P d e y)) ∘ D)).length=len:=by simp
    have hrow: ∀r∈(List.range len).map ((fun y=>mkRow P e (sZ P d e y)) ∘ D),∃i,i<len/\r=mkRow P e (sZ P d e (D i)):=by
     intro r hr
     obtain⟨i,hi,rfl⟩:=List.mem_map.1 hr
     exact⟨i,List.mem_range.1 hi,rfl⟩
    refine⟨one ?_,_,rfl,by rw[hrl];omega,fun r hr=>?_⟩
    ·have key:aQ (imm w) jZ noT (.sl (P.cellsOf e) ((List.range len).map ((fun y=>mkRow P e (sZ P d e y)) ∘ D)) .none) (.slice (some a) ((List.range len).map ((fun y=>mkRow P e (sZ P d e y)) ∘ D)).length cap):=by
      refine .sl (b:=a.block) (o:=a.off) (fun q=>(w.cell? ⟨a.block,a.off+q,none⟩).getD undef) (by rw[hrl];exact hle) (fun hne=>?_) (fun q hq=>?_) (fun r hr=>?_) (fun r hr=>?_) (fun j i hj hi=>?_) trivial
      ·have h0:0<len:=by
        rcases Nat.eq_zero_or_pos len with h0|h0
        ·subst h0;exact absurd rfl hne
        ·exact h0
       have:=hspot0 h0
       obtain⟨b,o,sp⟩:=a
       simp only at this;subst this;rfl
      ·rw[hrl] at hq
       have hq1:q / P.cellsOf e<len:=Nat.div_lt_of_lt_mul (by rw[Nat.mul_comm];exact hq)
       obtain⟨v,hv⟩:=(hall _ hq1).2.2 (q % P.cellsOf e) (Nat.mod_lt _ hk0)
       rw[show q / P.cellsOf e*P.cellsOf e+q % P.cellsOf e=q by rw[Nat.mul_comm];exact Nat.div_add_mod q _] at hv
       simp only[imm,hv,Option.getD_some]
      ·obtain⟨i,hi,rfl⟩:=hrow r hr
       rw[Jz (hall i hi).2.1,(hall i hi).1.1];simp
      ·obtain⟨i,hi,rfl⟩:=hrow r hr
       rw[Jz (hall i hi).2.1]
       exact Xq d e _ (hall i hi).2.1
      ·have hj':j<len:=by rwa [hrl] at hj
       have e1:((List.range len).map ((fun y=>mkRow P e (sZ P d e y)) ∘ D))[j]=mkRow P e (sZ P d e (D j)):=by simp
       simp only[e1,Jz (hall j hj').2.1] at hi ⊢
       have hi2:i<P.cellsOf e:=by have:=(hall j hj').1.1;simp at this;omega
       have:=(hall j hj').1.get i hi (by simpa using hi2)
       simpa using this
     rw[hrl] at key
     exact key
    ·obtain⟨i,hi,rfl⟩:=hrow r hr
     exact⟨_,rfl,(hall i hi).2.1⟩
  ·rename_i fs hu
   simp only[Bool.and_eq_true,List.all_eq_true] at hp
   obtain⟨hpf,hlay⟩:=hp
   obtain⟨xs,n,_,rfl,hl,hxl,hf⟩:=DataW.trod_struct hu h
   simp only[sZ,okV,hu]
   simp only[aRy,Bool.and_eq_true,List.all_eq_true,List.mem_range] at hlay
   refine aEw (fs.toList.map (·.type)) xs cs (tr:=DataW.trod enc P w 0 spare held n) (fun t ht cs x hx=>?_) (by simpa using hxl) ?_ (fun i t ht=>?_)
   ·obtain⟨f,hf1,rfl⟩:=List.mem_map.1 ht
    exact ih f.type n cs x (hpf f hf1) hx
   ·rw[hl,Nat.eq_of_beq_eq_true hlay.2];simp
   ·rw[List.getElem?_map] at ht
    cases hfi:fs.toList[i]? with
    |none=>rw[hfi] at ht;cases ht
    |some f=>
     rw[hfi] at ht
     simp only[Option.map_some,Option.some.injEq] at ht
     subst ht
     have hfi':fs[i]?=some f:=by simpa using hfi
     have hi:i<fs.size:=(Array.getElem?_eq_some_iff.1 hfi').1
     have:=hlay.1 i hi
     rw[hfi'] at this
     rw[<-Nat.eq_of_beq_eq_true this]
     exact hf i f hfi'
  ·rename_i n' e hu
   simp only[Bool.and_eq_true] at hp
   obtain⟨hpe,hsz⟩:=hp
   obtain⟨xs,n,_,rfl,hl,hxl,hf⟩:=DataW.trod_array hu h
   simp only[sZ,okV,hu]
   have hpre: ∀i,i<=n'->pre P (List.replicate n' e) i=i*P.cellsOf e:=fun i hi=>by simp [pre,Nat.min_eq_left hi,List.take_replicate]
   refine aEw (List.replicate n' e) xs cs (tr:=DataW.trod enc P w 0 spare held n) (fun t ht cs x hx=>?_) (by simpa using hxl) ?_ (fun i t ht=>?_)
   ·rw[List.eq_of_mem_replicate ht] at hx ⊢
    exact ih e n cs x hpe hx
   ·rw[hl,Nat.eq_of_beq_eq_true hsz];simp [hpre n' (Nat.le_refl _)]
   ·obtain⟨hi,ht⟩:=List.getElem?_eq_some_iff.1 ht
    simp at hi ht
    subst ht
    rw[hpre i (Nat.le_of_lt hi)]
    exact hf i hi
  ·cases hp
end Go.Proofs.Pv
namespace Go.Proofs.Pv
open Go Go.RowKit
variable {P:Program} {G:Nat->Option (List AV)}
theorem PC.calls {f:FuncId} {args:List AV} {R:AV->Prop} (h:PC P G f args R) {W:World} {vs:Array Value} (hargs:bP (aQ (imm W) jZ noT) args vs.toList)
  (hg: ∀g cells,G g=some cells->aQ (imm W) jZ noT (.vp cells) (.pointer (some ⟨g,0,none⟩))):
  Calls P f vs W fun e W'=>(∃v av,e= .returned v/\aQ (imm W') jZ noT av v/\R av)/\Below W.heap.size W W':=by
 let M0:Mem:= {I:=imm W,L:=jZ,T:=noT,F:=fun b=>W.heap[b]?}
 have inv0:Inv G M0 (fun _=>False) (fun _=>none) W W:=
  ⟨fun b o v h=>h,fun b ob h=>h,rfl,rfl,rfl,fun _ _=>⟨rfl,rfl⟩,fun key blk h=>(by cases h),fun k1 k2 b1 b2 b h=>(by cases h),hg,fun _ _ _=>trivial⟩
 obtain⟨_,hc⟩:=h Fence.wide ⟨fun _=>trivial,rfl⟩ rfl W M0 W vs rfl rfl inv0 hargs
 refine(callsIn_wide.1 (hc 0)).mono ?_
 rintro e W' ⟨M',v,av,rfl,hle,inv,hv,hR⟩
 have hold: ∀k ob,W.heap[k]?=some ob->W'.heap[k]?=some ob:=fun k ob hk=>inv.far k ob (hle.F k ob hk)
 refine⟨⟨v,av,rfl,aQ.mono0 (fun b o x hx=>inv.imm b o x hx) hv (fun _ _ h=>h) (fun _ _ h=>h),hR⟩,inv.os,inv.tape,inv.out,?_,fun k hk=>?_⟩
 ·rcases Nat.eq_zero_or_pos W.heap.size with h0|h0
  ·omega
  ·have h1:W.heap[W.heap.size - 1]?=some W.heap[W.heap.size - 1]:=Array.getElem?_eq_getElem (by omega)
   have:=lt_of_heap (hold _ _ h1)
   omega
 ·have h1:W.heap[k]?=some W.heap[k]:=Array.getElem?_eq_getElem hk
  rw[h1];exact hold k _ h1
theorem aQ.of_bool {I:jY} {L:Lo} {T:To} {b:Bool} {v:Value} (h:aQ I L T (.bool b) v):v= .bool b:=by cases h;rfl
theorem PC.law {f:FuncId} {args:List AV} (h:PC P G f args (fun v=>v= .bool true)) {W:World} {vs:Array Value} (hargs:bP (aQ (imm W) jZ noT) args vs.toList)
  (hg: ∀g cells,G g=some cells->aQ (imm W) jZ noT (.vp cells) (.pointer (some ⟨g,0,none⟩))):
  Calls P f vs W fun e W'=>e= .returned (.bool true)/\Below W.heap.size W W':=by
 refine(h.calls hargs hg).mono ?_
 rintro e W' ⟨⟨v,av,rfl,hv,rfl⟩,hb⟩
 exact⟨by rw[aQ.of_bool hv],hb⟩
theorem aRm {H:Type} {enc:TypeId×Value->H} {spare:Nat->Bool} {held:Bool} {W:World} {g:Nat} {t:TypeId} {d fuel:Nat} {cs:List Value} {x:DataW H×List MemPlace} (hp:Bq P d t=true) (h:DataW.trod enc P W 0 spare held fuel t cs=some x)
  (hc: ∀i v,cs[i]?=some v->W.cell? ⟨g,i,none⟩=some v):aQ (imm W) jZ noT (.vp (sZ P d t x.1)) (.pointer (some ⟨g,0,none⟩)):=by
 obtain⟨h1,_⟩:=Ol d t fuel cs x hp h
 refine .vp (fun q=>cs.getD q undef) (fun q hq=>?_) (fun i hi=>?_)
 ·have hq':q<cs.length:=by rw[<-h1.1];exact hq
  have:=hc q _ (List.getElem?_eq_getElem hq')
  simp only[imm,Nat.zero_add,this]
  simp [hq']
 ·have hi':i<cs.length:=by rw[<-h1.1];exact hi
  have:=h1.get i hi hi'
  simpa [hi'] using this
end Go.Proofs.Pv
namespace Go.Proofs.Pv
open Go
variable {P:Program} {G:Nat->Option (List AV)}
def AV.now (hp:Hp):Nat->AV->AV
 |0,x=>x.plain0
 | d+1,x=>match x with
  | .ptr key off=>(match hp key with
   |some (.cells cs)=> .vp ((cs.drop off).map (AV.now hp d))
   |_=> .ud)
  | .msl key off n k=>(match hp key with
   |some (.cells cs)=>if 0<k/\off+n*k<=cs.length/\((cs.drop off).map (AV.now hp d)).all AV.pure=true then .sl k (chunks (!(Nat.beq k 1)) k n ((cs.drop off).map (AV.now hp d))) .none else .ud
   |_=> .ud)
  | .fn f first cap=> .fn f (first.map (AV.now hp d)) (cap.map (AV.now hp d))
  | .agg cs=> .agg (cs.map (AV.now hp d))
  |x=>x.plain0
theorem aG1 {k:Nat} (hk:0<k) {n:Nat} {cs:List AV} (hl:n*k<=cs.length) (hp: ∀x∈cs,x.pure=true):
  ∀j i (hj:j< (chunks (!(Nat.beq k 1)) k n cs).length) (hi:i< ((chunks (!(Nat.beq k 1)) k n cs)[j]).cells.length),∃h:j*k+i<cs.length,((chunks (!(Nat.beq k 1)) k n cs)[j]).cells[i]=cs[j*k+i]:=by
 induction n generalizing cs with
 |zero=>intro j i hj;simp [chunks] at hj
 | succ n ih=>
  intro j i hj hi
  have hl':n*k+k<=cs.length:=by rw[<-Nat.succ_mul];exact hl
  have hrow:(if(!(Nat.beq k 1))=true then AV.agg (cs.take k) else cs.headD .ud).cells=cs.take k:=by
   by_cases e:k=1
   ·subst e
    match cs,hl',hp with
    |[],hl',_=>simp at hl'
    |c::cs,_,hp=>
     have hc:=AV.one_of_pure (hp c (by simp))
     simp only[show Nat.beq 1 1=true from rfl,Bool.not_true,Bool.false_eq_true,if_false,List.headD_cons,List.take_succ_cons,List.take_zero]
     cases c<;>first|rfl|simp [AV.one] at hc
   ·have hb:Nat.beq k 1=false:=by
     cases h:Nat.beq k 1 with
     |false=>rfl
     |true=>exact absurd (Nat.eq_of_beq_eq_true h) e
    simp [hb,AV.cells]
  cases j with
  | zero=>
   simp only[chunks,List.getElem_cons_zero] at hi ⊢
   have hi':i< (cs.take k).length:=by rw[<-hrow];exact hi
   have hik:i<k:=by simp at hi';omega
   refine⟨by omega,?_⟩
   have: ∀(l:List AV) (e:l=cs.take k) (h:i<l.length),l[i]=cs[0*k+i]'(by omega):=by
    intro l e h;subst e;simp
   exact this _ hrow hi
  |succ j=>
   simp only[chunks,List.getElem_cons_succ] at hi ⊢
   obtain⟨h1,h2⟩:=ih (cs:=cs.drop k) (by simp;omega) (fun x hx=>hp x (List.mem_of_mem_drop hx)) j i (by simpa [chunks] using hj) hi
   have hlen:(cs.drop k).length=cs.length - k:=by simp
   refine⟨by rw[Nat.succ_mul];omega,?_⟩
   rw[h2,List.getElem_drop]
   congr 1
   rw[Nat.succ_mul];omega
def AV.flat0:AV->Bool
 | .int _ _| .bool _| .str _| .nilp| .nilf| .nilm| .nili| .sl _ [] .none=>true
 |_=>false
def AV.flat1:AV->Bool
 | .agg cs=>cs.all AV.flat0
 |x=>x.flat0
def AV.flat:AV->Bool
 | .tup vs=>vs.all AV.flat1
 |x=>x.flat1
theorem aQ.flat0 {I I':jY} {L L':Lo} {T T':To} {a:AV} {v:Value} (h:aQ I L T a v) (hf:a.flat0=true):aQ I' L' T' a v:=by
 cases h with
 |int=>exact .int
 |bool=>exact .bool
 |str=>exact .str
 |nilp=>exact .nilp
 |nilf=>exact .nilf
 |nilm=>exact .nilm
 |nili=>exact .nili
 | @sl _ _ k c A rows t b o vs hc hA hI hk hP hR ht=>
  match rows,t,hf with
  |[],.none,_=>exact .sl (b:=b) (o:=o) vs hc (fun h=>absurd rfl h) (fun q hq=>by simp at hq) (fun r hr=>by simp at hr) (fun r hr=>by simp at hr) (fun j i hj=>by simp at hj) trivial
 |ud=>simp [AV.flat0] at hf
 |msl=>simp [AV.flat0] at hf
 |mcap=>simp [AV.flat0] at hf
 |vp=>simp [AV.flat0] at hf
 |ptr=>simp [AV.flat0] at hf
 |fn=>simp [AV.flat0] at hf
 |yld=>simp [AV.flat0] at hf
 |map=>simp [AV.flat0] at hf
 |agg=>simp [AV.flat0] at hf
 |tup=>simp [AV.flat0] at hf
 |ifc=>simp [AV.flat0] at hf
theorem aQ.flat1 {I I':jY} {L L':Lo} {T T':To} {a:AV} {v:Value} (h:aQ I L T a v) (hf:a.flat1=true):aQ I' L' T' a v:=by
 by_cases hg: ∃cs,a= .agg cs
 ·obtain⟨cs,rfl⟩:=hg
  simp only[AV.flat1,List.all_eq_true] at hf
  cases h with
  |agg hs hr=>exact .agg hs (fun i h h'=>(hr i h h').flat0 (hf _ (List.getElem_mem h)))
 ·have:a.flat1=a.flat0:=by cases a<;>first|rfl|exact absurd ⟨_,rfl⟩ hg
  rw[this] at hf;exact h.flat0 hf
theorem aQ.flat {I I':jY} {L L':Lo} {T T':To} {a:AV} {v:Value} (h:aQ I L T a v) (hf:a.flat=true):aQ I' L' T' a v:=by
 by_cases hg: ∃cs,a= .tup cs
 ·obtain⟨cs,rfl⟩:=hg
  simp only[AV.flat,List.all_eq_true] at hf
  cases h with
  |tup hs hr=>exact .tup hs (fun i h h'=>(hr i h h').flat1 (hf _ (List.getElem_mem h)))
 ·have:a.flat=a.flat1:=by cases a<;>first|rfl|exact absurd ⟨_,rfl⟩ hg
  rw[this] at hf;exact h.flat1 hf
def Vg (P:Program) (G:Nat->Option (List AV)) (H:Hand Prop) (c:Code) (K:dU Prop) (m:Nat):dU Prop:=fun x fr st=>match x with
 | .normal=>zW P G H c K m fr st
 |x=>K x fr st
section
variable {F:Fence} {W:World} {rng:Bool} {d:Nat}
theorem aJg {H:Hand Prop} {c:Code} {K:dU Prop} {m:Nat} {fr:Fr} {st:St}:zW P G H c K (m+1) fr st=fG P G H c (Vg P G H c K m) fr st:=rfl
theorem aA5 {H:Hand Prop} {c:Code} {K:dU Prop} {m:Nat} {fr:Fr} {st:St}:Vg P G H c K m .normal fr st=zW P G H c K m fr st:=rfl
theorem aEn {H:Hand Prop} {c:Code} {K:dU Prop} {m:Nat} {id:Nat} {fr:Fr} {st:St}:Vg P G H c K m (.exit id) fr st=K (.exit id) fr st:=rfl
theorem aG2 {H:Hand Prop} {c:Code} {K:dU Prop} {m:Nat} {fr:Fr} {st:St}:Vg P G H c K m .ret fr st=K .ret fr st:=rfl
end
end Go.Proofs.Pv
namespace Go.Proofs.Pv
open Go
end Go.Proofs.Pv
