/-
The abstract machine, part A: values without memory, what relates them to the model's values, and the state of the abstract heap.
Conditions: none but those that each statement names.
-/
import Derived.RangeFuncLeaves
import Derived.Laws.Cells
import Derived.Laws.World
import Derived.Laws.Sem
import Derived.OrdersIn
import Derived.Laws.AppendOwn
import Derived.Laws.CopyRow
import Derived.Laws.StructEq
set_option linter.unusedVariables false
set_option linter.unusedSimpArgs false
set_option maxRecDepth 100000
set_option maxHeartbeats 16000000
namespace Go.Proofs.Pv
open Go
theorem ZI {a b:Prop} (x:a) (y:b):a/\b:=⟨x,y⟩
inductive Tk where
 |none|full|tok (t:Nat)|mut
 deriving DecidableEq,Repr
inductive AV where
 |ud
 |int (k:IntKind) (n:Int)
 |bool (b:Bool)
 |str (s:ByteArray)
 |sl (k:Nat) (rows:List AV) (t:Tk)
 |msl (key off n k:Nat)
 |mcap (key off n c k:Nat)
 |vp (cells:List AV)
 |ptr (key off:Nat)
 |nilp
 |fn (f:FuncId) (first captured:List AV)
 |yld (key:Nat)
 |nilf
 |map (key:Nat)
 |nilm
 |agg (cells:List AV)
 |tup (vs:List AV)
 |nili
 |ifc (t:TypeId) (v:AV)
 deriving Inhabited
def AV.cells:AV->List AV
 | .agg cs=>cs
 |x=>[x]
def AV.one:AV->Bool
 | .ud| .agg _| .tup _=>false
 |_=>true
mutual
def AV.pure:AV->Bool
 | .int _ _| .bool _| .str _| .nilp| .nilf| .nilm| .nili| .vp _=>true
 | .sl _ _ (.tok _)=>false
 | .sl _ _ _=>true
 | .fn _ first cap=>AV.pureL first && AV.pureL cap
 | .ifc _ v=>v.pure
 |_=>false
def AV.pureL:List AV->Bool
 |[]=>true
 |x::xs=>x.pure && AV.pureL xs
end
theorem AV.pureL_iff: ∀l:List AV,AV.pureL l=true↔ ∀x∈l,x.pure=true
 |[]=>by simp [AV.pureL]
 |x::xs=>by simp [AV.pureL,AV.pureL_iff xs]
theorem AV.one_of_pure {x:AV} (h:x.pure=true):x.one=true:=by
 cases x<;>first|rfl|simp [AV.pure] at h
def AV.strip0:AV->AV
 | .sl k r _=> .sl k r .none
 |x=>x
def AV.strip:AV->AV
 | .agg cs=> .agg (cs.map AV.strip0)
 |x=>x.strip0
def AV.pureV:AV->Bool
 | .agg cs=>cs.all AV.pure
 |x=>x.pure
def AV.stripR:AV->AV
 | .tup vs=> .tup (vs.map AV.strip)
 |x=>x.strip
def AV.pureR:AV->Bool
 | .tup vs=>vs.all AV.pureV
 |x=>x.pureV
abbrev jZ:=Nat->Nat->Option Value
abbrev Lo:=Nat->Option Nat
abbrev To:=Nat->Option (Nat×Nat×Nat)
def kC:Lo:=fun _=>none
def noT:To:=fun _=>none
def Xo (T:To) (t:Tk) (A:Option Addr) (b o n c k:Nat):Prop:=
 match t with
 | .none=>True
 | .full=>c=n
 | .tok t=>o=0/\A=some ⟨b,0,none⟩/\T t=some (b,n*k,c*k)
 | .mut=>c=n
inductive aQ (I:jZ):Lo->To->AV->Value->Prop
 |ud {L T v}:aQ I L T .ud v
 |int {L T k n}:aQ I L T (.int k n) (.int k n)
 |bool {L T b}:aQ I L T (.bool b) (.bool b)
 |str {L T s}:aQ I L T (.str s) (.string s)
 |sl {L T} {k c:Nat} {A:Option Addr} {rows:List AV} {t:Tk} {b o:Nat} (vs:Nat->Value)
  (hc:rows.length<=c) (hA:rows≠[]->A=some ⟨b,o,none⟩)
  (hI: ∀q,q<rows.length*k->I b (o+q)=some (vs q))
  (hk: ∀r∈rows,r.cells.length=k) (hP: ∀r∈rows,∀x∈r.cells,x.pure=true)
  (hR: ∀j i (hj:j<rows.length) (hi:i< (rows[j]).cells.length),aQ I kC noT ((rows[j]).cells[i]) (vs (j*k+i)))
  (ht:Xo T t A b o rows.length c k):aQ I L T (.sl k rows t) (.slice A rows.length c)
 |msl {L T} {key off n k b c z:Nat} (hL:L key=some b) (hT:T key=some (b,0,z)) (hz:off+c*k<=z) (hc:n<=c):aQ I L T (.msl key off n k) (.slice (some ⟨b,off,none⟩) n c)
 |mcap {L T} {key off n c k b z:Nat} (hL:L key=some b) (hT:T key=some (b,0,z)) (hz:off+c*k<=z) (hc:n<=c):aQ I L T (.mcap key off n c k) (.slice (some ⟨b,off,none⟩) n c)
 |vp {L T} {cells:List AV} {b o:Nat} (vs:Nat->Value) (hI: ∀q,q<cells.length->I b (o+q)=some (vs q))
  (hR: ∀i (hi:i<cells.length),aQ I kC noT cells[i] (vs i)):aQ I L T (.vp cells) (.pointer (some ⟨b,o,none⟩))
 |ptr {L T} {key off b:Nat} (hL:L key=some b):aQ I L T (.ptr key off) (.pointer (some ⟨b,off,none⟩))
 |nilp {L T}:aQ I L T .nilp (.pointer none)
 |fn {L T f} {first cap:List AV} {fs cs:Array Value} (hf:fs.size=first.length) (hc:cs.size=cap.length)
  (h1: ∀i (h:i<first.length) (h':i<fs.size),aQ I L T first[i] fs[i])
  (h2: ∀i (h:i<cap.length) (h':i<cs.size),aQ I L T cap[i] cs[i]):aQ I L T (.fn f first cap) (.func (.func f) fs cs)
 |yld {L T} {key l:Nat} (hL:L key=some l):aQ I L T (.yld key) (.func (.yield l) #[] #[])
 |nilf {L T}:aQ I L T .nilf .nilFunc
 |map {L T} {key b:Nat} (hL:L key=some b):aQ I L T (.map key) (.map (some b))
 |nilm {L T}:aQ I L T .nilm (.map none)
 |agg {L T} {cells:List AV} {cs:Array Value} (hs:cs.size=cells.length)
  (h: ∀i (h:i<cells.length) (h':i<cs.size),aQ I L T cells[i] cs[i]):aQ I L T (.agg cells) (.agg cs)
 |tup {L T} {cells:List AV} {cs:Array Value} (hs:cs.size=cells.length)
  (h: ∀i (h:i<cells.length) (h':i<cs.size),aQ I L T cells[i] cs[i]):aQ I L T (.tup cells) (.tuple cs)
 |nili {L T}:aQ I L T .nili .nilIface
 |ifc {L T t a v} (h:aQ I L T a v):aQ I L T (.ifc t a) (.iface t v)
structure Mem where
 I:jZ
 L:Lo
 T:To
 F:Nat->Option Obj
structure Mem.le (M M':Mem):Prop where
 I: ∀b o v,M.I b o=some v->M'.I b o=some v
 L: ∀k b,M.L k=some b->M'.L k=some b
 T: ∀k x,M.T k=some x->M'.T k=some x
 F: ∀b x,M.F b=some x->M'.F b=some x
 IF: ∀b o,M.F b≠none->M'.I b o=M.I b o
theorem Mem.le_refl (M:Mem):M.le M:=⟨fun _ _ _ h=>h,fun _ _ h=>h,fun _ _ h=>h,fun _ _ h=>h,fun _ _ _=>rfl⟩
theorem Mem.le_trans {A B C:Mem} (h:A.le B) (k:B.le C):A.le C:=
 ⟨fun b o v x=>k.I b o v (h.I b o v x),fun b o x=>k.L b o (h.L b o x),fun b o x=>k.T b o (h.T b o x),fun b o x=>k.F b o (h.F b o x),fun b o hf=>by
  have hf':B.F b≠none:=by
   cases e:A.F b with
   |none=>exact absurd e hf
   |some x=>rw[h.F b x e];simp
  rw[k.IF b o hf',h.IF b o hf]⟩
theorem Xo.mono {T T':To} (hT: ∀k x,T k=some x->T' k=some x) {t A b o n c k} (h:Xo T t A b o n c k):Xo T' t A b o n c k:=by
 cases t<;>simp only[Xo] at h ⊢
 ·exact h
 ·exact⟨h.1,h.2.1,hT _ _ h.2.2⟩
 ·exact h
theorem aQ.mono0 {I I':jZ} (hI: ∀b o v,I b o=some v->I' b o=some v) {L:Lo} {T:To} {a:AV} {v:Value} (h:aQ I L T a v):
  ∀ {L':Lo} {T':To},(∀k b,L k=some b->L' k=some b)->(∀k x,T k=some x->T' k=some x)->aQ I' L' T' a v:=by
 induction h with
 |ud=>intros;exact .ud
 |int=>intros;exact .int
 |bool=>intros;exact .bool
 |str=>intros;exact .str
 |sl vs hc hA hI' hk hP hR ht ih=>intro L' T' _ hT;exact .sl vs hc hA (fun q hq=>hI _ _ _ (hI' q hq)) hk hP (fun j i hj hi=>ih j i hj hi (fun _ _ h=>h) (fun _ _ h=>h)) (ht.mono hT)
 |msl hL hT hz hc=>intro L' T' hL' hT';exact .msl (hL' _ _ hL) (hT' _ _ hT) hz hc
 |mcap hL hT hz hc=>intro L' T' hL' hT';exact .mcap (hL' _ _ hL) (hT' _ _ hT) hz hc
 |vp vs hI' hR ih=>intro L' T' _ _;exact .vp vs (fun q hq=>hI _ _ _ (hI' q hq)) (fun i hi=>ih i hi (fun _ _ h=>h) (fun _ _ h=>h))
 |ptr hL=>intro L' T' hL' _;exact .ptr (hL' _ _ hL)
 |nilp=>intros;exact .nilp
 |fn hf hc _ _ ih1 ih2=>intro L' T' hL' hT';exact .fn hf hc (fun i h h'=>ih1 i h h' hL' hT') (fun i h h'=>ih2 i h h' hL' hT')
 |yld hL=>intro L' T' hL' _;exact .yld (hL' _ _ hL)
 |nilf=>intros;exact .nilf
 |map hL=>intro L' T' hL' _;exact .map (hL' _ _ hL)
 |nilm=>intros;exact .nilm
 |agg hs _ ih=>intro L' T' hL' hT';exact .agg hs (fun i h h'=>ih i h h' hL' hT')
 |tup hs _ ih=>intro L' T' hL' hT';exact .tup hs (fun i h h'=>ih i h h' hL' hT')
 |nili=>intros;exact .nili
 |ifc _ ih=>intro L' T' hL' hT';exact .ifc (ih hL' hT')
def Mem.rel (M:Mem) (a:AV) (v:Value):Prop:=aQ M.I M.L M.T a v
theorem Mem.rel_mono {M M':Mem} (h:M.le M') {a:AV} {v:Value} (r:M.rel a v):M'.rel a v:=aQ.mono0 h.I r h.L h.T
theorem aQ.of_pure {I:jZ} {L:Lo} {T:To} {a:AV} {v:Value} (h:aQ I kC noT a v):aQ I L T a v:=
 aQ.mono0 (fun _ _ _ h=>h) h (fun _ _ h=>by cases h) (fun _ _ h=>by cases h)
theorem aQ.pure {I:jZ} {L:Lo} {T:To} {a:AV} {v:Value} (h:aQ I L T a v):a.pure=true->aQ I kC noT a v:=by
 induction h with
 |ud=>intro p;simp [AV.pure] at p
 |int=>intro;exact .int
 |bool=>intro;exact .bool
 |str=>intro;exact .str
 | @sl L T k c A rows t b o vs hc hA hI' hk hP hR ht ih=>
  intro p
  refine .sl vs hc hA hI' hk hP hR ?_
  cases t<;>simp_all [AV.pure,Xo]
 |msl hL hT hz hc=>intro p;simp [AV.pure] at p
 |mcap hL hT hz hc=>intro p;simp [AV.pure] at p
 |vp vs hI' hR ih=>intro;exact .vp vs hI' hR
 |ptr hL=>intro p;simp [AV.pure] at p
 |nilp=>intros;exact .nilp
 | @fn L T f first cap fs cs hf hc _ _ ih1 ih2=>
  intro p
  simp only[AV.pure,Bool.and_eq_true,AV.pureL_iff] at p
  exact .fn hf hc (fun i h h'=>ih1 i h h' (p.1 _ (List.getElem_mem h))) (fun i h h'=>ih2 i h h' (p.2 _ (List.getElem_mem h)))
 |yld hL=>intro p;simp [AV.pure] at p
 |nilf=>intros;exact .nilf
 |map hL=>intro p;simp [AV.pure] at p
 |nilm=>intros;exact .nilm
 |agg hs _ ih=>intro p;simp [AV.pure] at p
 |tup hs _ ih=>intro p;simp [AV.pure] at p
 |nili=>intros;exact .nili
 |ifc _ ih=>intro p;exact .ifc (ih (by simpa [AV.pure] using p))
theorem aQ.strip0 {I:jZ} {L:Lo} {T:To} {a:AV} {v:Value} (h:aQ I L T a v):aQ I L T a.strip0 v:=by
 cases h with
 |sl vs hc hA hI' hk hP hR ht=>exact .sl vs hc hA hI' hk hP hR trivial
 |ud=>exact .ud
 |int=>exact .int
 |bool=>exact .bool
 |str=>exact .str
 |msl h1 h2 h3 h4=>exact .msl h1 h2 h3 h4
 |mcap h1 h2 h3 h4=>exact .mcap h1 h2 h3 h4
 |vp a b c=>exact .vp a b c
 |ptr h=>exact .ptr h
 |nilp=>exact .nilp
 |fn a b c d=>exact .fn a b c d
 |yld h=>exact .yld h
 |nilf=>exact .nilf
 |map h=>exact .map h
 |nilm=>exact .nilm
 |agg a b=>exact .agg a b
 |tup a b=>exact .tup a b
 |nili=>exact .nili
 |ifc h=>exact .ifc h
theorem aQ.strip {I:jZ} {L:Lo} {T:To} {a:AV} {v:Value} (h:aQ I L T a v):aQ I L T a.strip v:=by
 by_cases hg: ∃cs,a= .agg cs
 ·obtain⟨cs,rfl⟩:=hg
  cases h with
  |agg hs hr=>exact .agg (by simpa using hs) (fun i h h'=>by simpa using(hr i (by simpa using h) h').strip0)
 ·have:a.strip=a.strip0:=by cases a<;>first|rfl|exact absurd ⟨_,rfl⟩ hg
  rw[this];exact h.strip0
def AV.plain0 (x:AV):AV:=if x.strip0.pure then x.strip0 else .ud
def AV.plain:AV->AV
 | .agg cs=> .agg (cs.map AV.plain0)
 |x=>x.plain0
theorem aQ.plain0 {I:jZ} {L:Lo} {T:To} {a:AV} {v:Value} (h:aQ I L T a v):aQ I kC noT a.plain0 v:=by
 unfold AV.plain0
 split
 ·rename_i hp;exact h.strip0.pure hp
 ·exact .ud
theorem aQ.plain {I:jZ} {L:Lo} {T:To} {a:AV} {v:Value} (h:aQ I L T a v):aQ I kC noT a.plain v:=by
 by_cases hg: ∃cs,a= .agg cs
 ·obtain⟨cs,rfl⟩:=hg
  cases h with
  |agg hs hr=>exact .agg (by simpa using hs) (fun i h h'=>by simpa using(hr i (by simpa using h) h').plain0)
 ·have:a.plain=a.plain0:=by cases a<;>first|rfl|exact absurd ⟨_,rfl⟩ hg
  rw[this];exact h.plain0
theorem aQ.cells {I:jZ} {L:Lo} {T:To} {a:AV} {v:Value} (h:aQ I L T a v) (hu:a≠ .ud):
  v.cells.size=a.cells.length/\ ∀i (hi:i<a.cells.length) (hi':i<v.cells.size),aQ I L T a.cells[i] v.cells[i]:=by
 cases h with
 |ud=>exact absurd rfl hu
 |agg hs hr=>exact⟨hs,hr⟩
 |int=>exact⟨rfl,fun i hi hi'=>by simp [AV.cells] at hi;subst hi;exact .int⟩
 |bool=>exact⟨rfl,fun i hi hi'=>by simp [AV.cells] at hi;subst hi;exact .bool⟩
 |str=>exact⟨rfl,fun i hi hi'=>by simp [AV.cells] at hi;subst hi;exact .str⟩
 |sl a b c d e f g h=>exact⟨rfl,fun i hi hi'=>by simp [AV.cells] at hi;subst hi;exact .sl a b c d e f g h⟩
 |msl a b c d=>exact⟨rfl,fun i hi hi'=>by simp [AV.cells] at hi;subst hi;exact .msl a b c d⟩
 |mcap a b c d=>exact⟨rfl,fun i hi hi'=>by simp [AV.cells] at hi;subst hi;exact .mcap a b c d⟩
 |vp a b c=>exact⟨rfl,fun i hi hi'=>by simp [AV.cells] at hi;subst hi;exact .vp a b c⟩
 |ptr a=>exact⟨rfl,fun i hi hi'=>by simp [AV.cells] at hi;subst hi;exact .ptr a⟩
 |nilp=>exact⟨rfl,fun i hi hi'=>by simp [AV.cells] at hi;subst hi;exact .nilp⟩
 |fn a b c d=>exact⟨rfl,fun i hi hi'=>by simp [AV.cells] at hi;subst hi;exact .fn a b c d⟩
 |yld a=>exact⟨rfl,fun i hi hi'=>by simp [AV.cells] at hi;subst hi;exact .yld a⟩
 |nilf=>exact⟨rfl,fun i hi hi'=>by simp [AV.cells] at hi;subst hi;exact .nilf⟩
 |map a=>exact⟨rfl,fun i hi hi'=>by simp [AV.cells] at hi;subst hi;exact .map a⟩
 |nilm=>exact⟨rfl,fun i hi hi'=>by simp [AV.cells] at hi;subst hi;exact .nilm⟩
 |tup a b=>exact⟨rfl,fun i hi hi'=>by simp [AV.cells] at hi;subst hi;exact .tup a b⟩
 |nili=>exact⟨rfl,fun i hi hi'=>by simp [AV.cells] at hi;subst hi;exact .nili⟩
 |ifc a=>exact⟨rfl,fun i hi hi'=>by simp [AV.cells] at hi;subst hi;exact .ifc a⟩
structure ME where
 key:AV
 val:AV
 born:Nat
inductive aI where
 |cells (cs:List AV)
 |tok
 |map (es:List ME) (clock:Nat)
 |sit (s:ByteArray) (pos:Nat)
 |mit (m:Nat) (since:Nat) (seen:List Nat) (stepped:Nat)
 |nmit
 |loop (st:LoopState) (pend:Option Code) (s:List AV) (params:Array Tmp) (assign body:Code) (defers:Nat)
 |dfd (open_:Bool)
 deriving Inhabited
abbrev Hp:=Nat->Option aI
def aI.isTok:aI->Bool
 | .tok=>true
 |_=>false
def Mem.blockOf (M:Mem) (key:Nat) (blk:aI):Option Nat:=if blk.isTok then(M.T key).map (·.1) else M.L key
def dC (M:Mem) (key:Nat):aI->Obj->Prop
 | .cells cs,.cells c _ fr=>fr=(0,0)/\cs.length<=c.size/\(∀i (h:i<cs.length) (h':i<c.size),M.rel cs[i] c[i])/\ ∃b z,M.T key=some (b,0,z)/\z<=c.size
 | .tok,.cells c _ fr=>fr=(0,0)/\ ∃b e z,M.T key=some (b,e,z)/\e<=z/\z<=c.size/\ ∀o,e<=o->M.I b o=none
 | .map es clock,.map es' clock'=>clock'=clock/\es'.size=es.length/\ ∀i (h:i<es.length) (h':i<es'.size),M.rel es[i].key es'[i].key/\M.rel es[i].val es'[i].val/\es'[i].born=es[i].born
 | .sit s p,.stringIter s' p'=>s'=s/\p'=p
 | .mit m since seen st,.mapIter m' since' seen' st'=>(∃b,M.L m=some b/\m'=some b)/\since'=since/\seen'=seen.toArray/\st'=st
 | .nmit,.mapIter m' _ _ _=>m'=none
 | .loop st pend s ps assign body d,.loop r=>r.state=st/\r.pending=pend/\r.params=ps/\r.assign=assign/\r.body=body/\M.L d=some r.defers/\
  r.tmps.size=s.length/\ ∀i (h:i<s.length) (h':i<r.tmps.size),M.rel s[i] r.tmps[i]
 | .dfd op,.deferred c=>c=if op then some [] else none
 |_,_=>False
structure Inv (G:Nat->Option (List AV)) (M:Mem) (al:Nat->Prop) (hp:Hp) (W w:World):Prop where
 imm: ∀b o v,M.I b o=some v->w.cell? ⟨b,o,none⟩=some v
 far: ∀b ob,M.F b=some ob->w.heap[b]?=some ob
 os:w.os=W.os
 tape:w.tape=W.tape
 out:w.output=W.output
 fresh: ∀key,¬al key->M.L key=none/\M.T key=none
 live: ∀key blk,hp key=some blk-> ∃b ob,M.blockOf key blk=some b/\w.heap[b]?=some ob/\dC M key blk ob/\M.F b=none/\(blk.isTok=false-> ∀o,M.I b o=none)
 inj: ∀k1 k2 b1 b2 b,hp k1=some b1->hp k2=some b2->M.blockOf k1 b1=some b->M.blockOf k2 b2=some b->k1=k2
 glob: ∀g cells,G g=some cells->aQ M.I kC noT (.vp cells) (.pointer (some ⟨g,0,none⟩))
 has: ∀key,al key->hp key≠none->True
end Go.Proofs.Pv
namespace Go.Proofs.Pv
open Go
def sz (P:Program) (t:TypeId):Option Nat:=
 match P.info? t,P.underlying t with
 |some i,some _=>some i.size
 |_,_=>none
def dZ (P:Program) (t:TypeId):Option Nat:=(P.info? t).map (·.bytes)
def ag (P:Program) (t:TypeId):Bool:=
 match P.underlying t with
 |some (.struct _)|some (.array _ _)=>true
 |_=>false
def nN (P:Program) (t:TypeId):Option TypeId:=
 match P.underlying t with
 |some (.slice e)=>some e
 |_=>none
def Nw (P:Program):Nat->TypeId->List Nat
 |0,_=>[]
 |d+1,t=>
  match P.underlying t with
  |some (.slice e)=>[(sz P e).getD 0]
  |some (.struct fs)=>fs.toList.flatMap fun f=>Nw P d f.type
  |some (.array n e)=>(List.replicate n (Nw P d e)).flatten
  |_=>[0]
def Aj (P:Program) (t:TypeId):Nat:=((nN P t).bind (sz P)).getD 0
def gX (P:Program) (t:TypeId) (i:Nat):Option (Nat×Nat×TypeId):=
 match P.underlying t with
 | some (.struct fs)=>match fs[i]? with
  |some f=>match sz P f.type with
   |some n=>some (f.offset,n,f.type)
   |none=>none
  |none=>none
 |_=>none
def aB7 (k:Nat):Value->AV
 | .bool b=> .bool b
 | .int q n=> .int q n
 | .string s=> .str s
 | .pointer none=> .nilp
 | .slice none 0 0=> .sl k [] .full
 | .map none=> .nilm
 | .nilFunc=> .nilf
 | .nilIface=> .nili
 |_=> .ud
def Em:List Nat->List Value->List AV
 |_,[]=>[]
 |[],v::vs=>aB7 0 v::Em [] vs
 |k::ks,v::vs=>aB7 k v::Em ks vs
def dX (P:Program) (t:TypeId):Option (List AV):=
 match P.info? t with
 |some i=>match i.zero with
  |some z=>some (Em (Nw P 8 t) z.cells.toList)
  |none=>none
 |none=>none
def evC (P:Program) (ty:TypeId):Value->AV
 | .agg cs=> .agg (Em (Nw P 8 ty) cs.toList)
 |v=>aB7 (Aj P ty) v
def qP (G:Nat->Option (List AV)) (ty:TypeId):Tk:=match G (ty+1000000) with
 |some _=> .mut
 |none=> .full
def evK (P:Program) (G:Nat->Option (List AV)) (ty:TypeId):Value->AV
 | .slice none 0 0=> .sl (Aj P ty) [] (qP G ty)
 |v=>evC P ty v
def ev (P:Program) (G:Nat->Option (List AV)) (s:List AV) (ty:TypeId):Operand->AV
 | .tmp t=>s.getD t .ud
 | .const v=>evK P G ty v
 | .global g=>match G g with
  |some cs=> .vp cs
  |none=> .ud
 | .func f=> .fn f [] []
def AV.isUndef:AV->Bool
 | .ud=>true
 |_=>false
def aAs (op:BinOp) (k:IntKind) (a b:Int):Option AV:=
 match op with
 | .add=>some (.int k (k.wrap (a+b)))
 | .sub=>some (.int k (k.wrap (a - b)))
 | .mul=>some (.int k (k.wrap (a*b)))
 | .quo=>if b=0 then none else some (.int k (k.wrap (a.tdiv b)))
 | .rem=>if b=0 then none else some (.int k (a.tmod b))
 | .and=>some (.int k (k.wrap (BitVec.ofInt k.bits a &&& BitVec.ofInt k.bits b).toNat))
 | .or=>some (.int k (k.wrap (BitVec.ofInt k.bits a|||BitVec.ofInt k.bits b).toNat))
 | .xor=>some (.int k (k.wrap (BitVec.ofInt k.bits a ^^^ BitVec.ofInt k.bits b).toNat))
 | .andNot=>some (.int k (k.wrap (BitVec.ofInt k.bits a &&& ~~~(BitVec.ofInt k.bits b)).toNat))
 | .eql=>some (.bool (a==b))
 | .neq=>some (.bool (a !=b))
 | .lss=>some (.bool (a<b))
 | .leq=>some (.bool (a<=b))
 | .gtr=>some (.bool (a>b))
 | .geq=>some (.bool (a>=b))
 |_=>none
def aGk (op:BinOp) (x y:ByteArray):Option AV:=
 match op with
 | .add=>if((x.size+y.size:Nat):Int)>IntKind.i64.max then none else some (.str (x++y))
 | .eql=>some (.bool (x.toList==y.toList))
 | .neq=>some (.bool (!(x.toList==y.toList)))
 | .lss=>some (.bool (Op.bytesLess x.toList y.toList))
 | .leq=>some (.bool (Op.bytesLess x.toList y.toList||x.toList==y.toList))
 | .gtr=>some (.bool (!(Op.bytesLess x.toList y.toList||x.toList==y.toList)))
 | .geq=>some (.bool (!Op.bytesLess x.toList y.toList))
 |_=>none
def Ju (P:Program) (t:TypeId) (cs:List AV) (off:Nat):Option AV:=
 match sz P t with
 |none=>none
 |some n=>if ag P t then(if off+n<=cs.length then some (.agg ((cs.drop off).take n)) else none) else cs[off]?
def aGl (P:Program) (eq:TypeId->AV->AV->Option Bool):List Field->List AV->List AV->Option Bool
 |[],_,_=>some true
 | f::fs,xs,ys=>
  if f.name= "_" then none else
  match Ju P f.type xs f.offset,Ju P f.type ys f.offset with
  |some a,some b=>match eq f.type a b,aGl P eq fs xs ys with
   |some r,some r'=>some (r && r')
   |_,_=>none
  |_,_=>none
def uK (P:Program):Nat->TypeId->AV->AV->Option Bool
 |0,_,_,_=>none
 |d+1,t,x,y=>
  match P.underlying t,x,y with
  |some .bool,.bool a,.bool b=>some (a==b)
  |some (.int _),.int k a,.int k' b=>if k=k' then some (a==b) else none
  |some .string,.str a,.str b=>some (a==b)
  |some (.struct fs),.agg xs,.agg ys=>if P.stoodInHeld t then none else aGl P (uK P d) fs.toList xs ys
  |_,_,_=>none
def abin (P:Program) (op:BinOp) (t:TypeId) (x y:AV):Option AV:=
 match x,y with
 | .int k a,.int k' b=>
  match op with
  | .shl=>if b<0 then none else some (.int k (k.wrap (a*2 ^ (min b.toNat k.bits))))
  | .shr=>if b<0 then none else some (.int k (a.fdiv (2 ^ (min b.toNat k.bits))))
  |_=>if k=k' then aAs op k a b else none
 | .str a,.str b=>aGk op a b
 | .bool a,.bool b=>
  match op,P.underlying t with
  | .eql,some .bool=>some (.bool (a==b))
  | .neq,some .bool=>some (.bool (!(a==b)))
  |_,_=>none
 | .agg xs,.agg ys=>
  match op with
  | .eql=>if P.eqGuardType P.depth t then none else(uK P 9 t (.agg xs) (.agg ys)).map .bool
  | .neq=>if P.eqGuardType P.depth t then none else(uK P 9 t (.agg xs) (.agg ys)).map fun b=> .bool (!b)
  |_=>none
 |x,.nilp=>
  match op,x,P.underlying t with
  | .eql,.nilp,some (.pointer _)=>some (.bool true)
  | .neq,.nilp,some (.pointer _)=>some (.bool false)
  | .eql,.ptr _ _,some (.pointer _)| .eql,.vp _,some (.pointer _)=>some (.bool false)
  | .neq,.ptr _ _,some (.pointer _)| .neq,.vp _,some (.pointer _)=>some (.bool true)
  |_,_,_=>none
 |_,_=>none
def aun (op:UnOp) (x:AV):Option AV:=
 match op,x with
 | .neg,.int k n=>some (.int k (k.wrap (0 - n)))
 | .not,.bool b=>some (.bool (!b))
 | .xor,.int k n=>some (.int k (k.wrap (BitVec.ofInt k.bits (if k.signed then -1 else k.max) ^^^ BitVec.ofInt k.bits n).toNat))
 |_,_=>none
def AV.ite (c:Bool) (x y:AV):AV:=
 match x,y with
 | .bool a,.bool b=> .bool (if c then a else b)
 |x,y=>if c then x else y
inductive kM where
 |val (v:AV) (u:List (Nat×Option aI))
 |skip (u:List (Nat×Option aI))
 |call (f:FuncId) (args:List AV)
 |yield (key:Nat) (args:List AV)
 |branch (l:List (AV×List (Nat×Option aI)))
 deriving Inhabited
def mkv (a:Bool) (n:Nat) (cs:List AV):Option AV:=
 if n<=cs.length then(if a then some (.agg (cs.take n)) else cs.head?) else none
def Jv (P:Program) (g:Hp) (t:TypeId) (a:AV):Option AV:=
 match sz P t,a with
 |some n,.ptr key off=>match g key with
  |some (.cells cs)=>if off<=cs.length then mkv (ag P t) n (cs.drop off) else none
  |_=>none
 |some n,.vp cs=>mkv (ag P t) n cs
 |_,_=>none
def splice (cs:List AV) (off:Nat) (vs:List AV):List AV:=cs.take off++vs++cs.drop (off+vs.length)
def Af (P:Program) (g:Hp) (t:TypeId) (a v:AV):Option (List (Nat×Option aI)):=
 match a with
 | .ptr key off=>match g key,sz P t with
  |some (.cells cs),some n=>
   if v.isUndef=false/\v.cells.length=n/\v.cells.all AV.one/\off+n<=cs.length then some [(key,some (.cells (splice cs off v.cells)))] else none
  |_,_=>none
 |_=>none
def wO (place:Nat->Option (Nat×Nat)):List AV->List (Nat×AV)->Option (List AV)
 |cs,[]=>some cs
 |cs,(i,v)::rest=>
  match place i with
  |some (off,n)=>if v.isUndef=false/\v.cells.length=n/\off+n<=cs.length then wO place (splice cs off v.cells) rest else none
  |none=>none
def places (P:Program) (t:TypeId):Option (List (Nat×Nat)):=
 match P.underlying t with
 |some (.struct fs)=>fs.toList.mapM fun f=>(P.info? f.type).map fun i=>(f.offset,i.size)
 |some (.array n e)=>(P.info? e).map fun i=>(List.range n).map fun j=>(j*i.size,i.size)
 |_=>none
def dQ (P:Program) (t:TypeId) (i:Nat):TypeId:=
 match P.underlying t with
 |some (.struct fs)=>match fs[i]? with
  |some f=>f.type
  |none=>0
 |some (.array _ e)=>e
 |some (.slice e)=>e
 |_=>0
def chunks (a:Bool) (k:Nat):Nat->List AV->List AV
 |0,_=>[]
 |n+1,cs=>(if a then AV.agg (cs.take k) else cs.headD .ud)::chunks a k n (cs.drop k)
def Qq (P:Program) (g:Hp) (t:TypeId) (x:AV):Option AV:=
 match P.underlying t,x with
 |some .string,.str s=>some (.int .i64 s.size)
 |some (.slice _),.sl _ rows _=>some (.int .i64 rows.length)
 |some (.slice _),.msl _ _ n _=>some (.int .i64 n)
 |some (.slice _),.mcap _ _ n _ _=>some (.int .i64 n)
 |some (.map _ _),.nilm=>some (.int .i64 0)
 |some (.map _ _),.map key=>match g key with
  |some (.map es _)=>some (.int .i64 es.length)
  |_=>none
 |some (.array n _),_=>some (.int .i64 n)
 |_,_=>none
def bnd (x:Option AV) (d:Nat):Option Int:=
 match x with
 |none=>some d
 |some (.int _ n)=>some n
 |_=>none
def aAt (P:Program) (t:TypeId) (x:AV) (lo hi mx:Option AV):Option AV:=
  match P.underlying t,x with
  | some .string,.str s=>
    match mx,bnd lo 0,bnd hi s.size with
    |none,some l,some h=>if 0<=l/\l<=h/\h<=s.size then some (.str (s.extract l.toNat h.toNat)) else none
    |_,_,_=>none
  | some (.slice e),.sl k rows tk=>
    match bnd lo 0,bnd hi rows.length with
    | some l,some h=>
      if 0<=l/\l<=h/\h<=rows.length/\sz P e=some k then
        match mx with
        |none=>some (.sl k ((rows.take h.toNat).drop l.toNat) (if l=0/\h=rows.length then tk else if tk= .full/\h=rows.length then .full else .none))
        |some (.int _ m)=>if hi.isSome/\h<=m/\m<=rows.length then some (.sl k ((rows.take h.toNat).drop l.toNat) (if m=h then .full else .none)) else none
        |_=>none
      else none
    |_,_=>none
  | some (.slice e),.msl key off n k=>
    match bnd lo 0,bnd hi n,mx with
    | some l,some h,none=>if 0<=l/\l<=h/\h<=n/\l<n/\sz P e=some k then some (.msl key (off+l.toNat*k) (h.toNat - l.toNat) k)
      else if 0<=l/\l=h/\h<=n/\sz P e=some k then some (.sl k [] .none) else none
    |_,_,_=>none
  | some (.slice e),.mcap key off n c k=>
    match bnd lo 0,bnd hi n,mx with
    |some l,some h,none=>if 0<=l/\l<=h/\h<=c/\sz P e=some k then some (if l<c then .mcap key (off+l.toNat*k) (h.toNat - l.toNat) (c - l.toNat) k else .sl k [] .full) else none
    |some l,some h,some (.int _ m)=>if 0<=l/\l<=h/\h<=m/\m<=c/\hi.isSome/\sz P e=some k then some .ud else none
    |_,_,_=>none
  |_,_=>none
def aGm (P:Program) (t:TypeId) (x:AV) (f:Nat):Option AV:=
 match gX P t f,x with
 |some (off,_,ft),.agg cs=>Ju P ft cs off
 |_,_=>none
def aAu (P:Program) (t:TypeId) (x:AV) (f:Nat):Option AV:=
 match gX P t f,x with
 |some (off,n,_),.ptr key o=>if n=0 then none else some (.ptr key (o+off))
 |some (off,n,_),.vp cs=>if n=0\/cs.length<off then none else some (.vp (cs.drop off))
 |_,_=>none
def aAv (P:Program) (t:TypeId) (x i:AV):Option AV:=
 match i with
 | .int _ i=>
  match P.underlying t,x with
  | some (.slice e),.sl k rows _=>
   match sz P e with
   | some n=>if n=k/\0<=i then match rows[i.toNat]? with
     |some r=>some (.vp r.cells)
     |none=>none
    else none
   |none=>none
  |some (.slice e),.msl key off n k=>if sz P e=some k/\0<=i/\i<n then some (.ptr key (off+i.toNat*k)) else none
  |some (.array n e),.ptr key off=>match sz P e with
   |some k=>if 0<=i/\i<n then some (.ptr key (off+i.toNat*k)) else none
   |none=>none
  |some (.array n e),.vp cs=>match sz P e with
   |some k=>if 0<=i/\i<n/\i.toNat*k<=cs.length then some (.vp (cs.drop (i.toNat*k))) else none
   |none=>none
  |_,_=>none
 |_=>none
def aAw (P:Program) (t:TypeId) (x i:AV):Option AV:=
 match i with
 | .int _ i=>
  match P.underlying t,x with
  |some (.array n e),.agg cs=>match sz P e with
   |some k=>if 0<=i/\i<n then Ju P e cs (i.toNat*k) else none
   |none=>none
  | some .string,.str s=>if 0<=i then match s[i.toNat]? with
    |some b=>some (.int .u8 b.toNat)
    |none=>none
   else none
  |_,_=>none
 |_=>none
def Be (P:Program) (g:Hp) (nx:Nat) (t:TypeId) (s x:AV):Option (AV×List (Nat×Option aI)):=
 match nN P t with
 |none=>none
 | some e=>
  match sz P e,dZ P e,s,x with
  | some n,some by_,.sl k rows tk,.sl k' ys _=>
   if ys.isEmpty then some (.sl k rows tk,[]) else
   if k=n/\k'=n/\0<n/\0<by_/\(rows.length+ys.length)*by_<=140737488355328/\(dX P e).map List.length=some n then
    match tk with
    | .none| .mut=>none
    | .full=>some (.sl n (rows++ys) (.tok nx),[(nx,some .tok)])
    | .tok q=>match g q with
     |some .tok=>some (.sl n (rows++ys) (.tok nx),[(q,none),(nx,some .tok)])
     |_=>none
   else none
  |_,_,_,_=>none
def cO (g:Hp) (n:Nat):AV->Option (List AV×Nat)
 | .sl k ys _=>if k=n then some (ys.flatMap AV.cells,ys.length) else none
 | .msl key off m k=>match g key with
  |some (.cells cs)=>if k=n/\off+m*n<=cs.length then some ((cs.drop off).take (m*n),m) else none
  |_=>none
 | .mcap key off m _ k=>match g key with
  |some (.cells cs)=>if k=n/\off+m*n<=cs.length then some ((cs.drop off).take (m*n),m) else none
  |_=>none
 |_=>none
def AV.isMsl:AV->Bool
 | .msl _ _ _ _=>true
 |_=>false
def gI (P:Program) (g:Hp) (nx:Nat) (t:TypeId) (s x:AV):Option (AV×List (Nat×Option aI)):=
 match nN P t with
 |none=>none
 | some e=>
  match sz P e,dZ P e with
  | some n,some by_=>
   match cO g n x with
   |none=>none
   | some (ys,m)=>
    if 0<m/\0<n/\0<by_/\(dX P e).map List.length=some n/\ys.all AV.one=true then
     match s with
     | .sl k rows tk=>if k=n/\(tk= .mut\/tk= .full/\x.isMsl=true)/\(rows.length+m)*by_<=140737488355328 then
       some (.msl nx 0 (rows.length+m) n,[(nx,some (.cells (rows.flatMap AV.cells++ys)))]) else none
     | .msl key off c k=>match g key with
      | some (.cells cs)=>if off=0/\k=n/\cs.length=c*n/\(c+m)*by_<=140737488355328 then
        some (.msl nx 0 (c+m) n,[(key,none),(nx,some (.cells (cs++ys)))]) else none
      |_=>none
     |_=>none
    else none
  |_,_=>none
def pF (P:Program) (g:Hp) (t:TypeId) (d x:AV):Option (AV×List (Nat×Option aI)):=
 match nN P t,d with
 | some e,.msl key off m k=>(match sz P e with
  | some n=>(match g key,cO g n x with
   |some (.cells cs),some (ys,l)=>if k=n/\off+m*n<=cs.length/\0<l/\ys.all AV.one=true then
    some (.int .i64 (min l m:Nat),[(key,some (.cells (splice cs off (ys.take (min l m*n)))))]) else none
   |_,_=>none)
  |none=>none)
 | some e,.mcap key off m _ k=>(match sz P e with
  | some n=>(match g key,cO g n x with
   |some (.cells cs),some (ys,l)=>if k=n/\off+m*n<=cs.length/\0<l/\(ys.take (min l m*n)).all AV.one=true then
    some (.int .i64 (min l m:Nat),[(key,some (.cells (splice cs off (ys.take (min l m*n)))))])
    else if l=0 then some (.int .i64 0,[]) else none
   |_,_=>none)
  |none=>none)
 |_,_=>none
def kE (P:Program) (g:Hp) (nx:Nat) (t:TypeId) (s:AV) (x:AV):Option (AV×List (Nat×Option aI)):=
 match nN P t,s with
 | some e,.mcap key off c z k=>(match sz P e,dZ P e,g key,cO g k x with
  | some n,some by_,some (.cells cs),some (ys,m)=>
   if k=n/\off=0/\0<n/\0<by_/\(dX P e).map List.length=some n/\(c+m)*by_<=140737488355328/\ys.all AV.one=true/\z*n<=cs.length then
    if m=0 then some (s,[])
    else if c+m<=z then some (.mcap key 0 (c+m) z n,[(key,some (.cells (splice cs (c*n) ys)))])
    else some (.msl nx 0 (c+m) n,[(nx,some (.cells (cs.take (c*n)++ys)))])
   else none
  |_,_,_,_=>none)
 |_,_=>none
def Ag (P:Program) (g:Hp) (nx:Nat) (t tn:TypeId) (s x:AV):Option (AV×List (Nat×Option aI)):=
 match nN P t,s,x with
 | some e,.mcap key off c z k,.int _ l=>(match sz P e,dZ P e,g key,dX P e,P.underlying tn with
  | some n,some by_,some (.cells cs),some zr,some (.int _)=>
   if k=n/\off=0/\0<n/\0<by_/\zr.length=n/\(c+l.toNat)*by_<=140737488355328/\c*n<=cs.length/\0<l/\z<c+l.toNat/\l<=9223372036854775807 then
    some (.msl nx 0 (c+l.toNat) n,[(nx,some (.cells (cs.take (c*n)++(List.replicate l.toNat zr).flatten)))])
   else none
  |_,_,_,_,_=>none)
 |_,_,_=>none
def mX (P:Program) (g:Hp) (t:TypeId) (x:AV):Option (AV×List (Nat×Option aI)):=
 match nN P t,x with
 | some e,.mcap key off m _ k=>(match sz P e,g key,dX P e with
  | some n,some (.cells cs),some zr=>
   if k=n/\zr.length=n/\zr.all AV.one=true/\off+m*n<=cs.length then
    some (.tup [],if m=0 then [] else [(key,some (.cells (splice cs off (List.replicate m zr).flatten)))]) else none
  |_,_,_=>none)
 |some _,.sl _ [] _=>some (.tup [],[])
 |_,_=>none
def sQ:AV->Option AV
 | .mcap _ _ _ c _=>some (.int .i64 c)
 |_=>none
def Ii (lt:Int->Int->Bool):AV->List AV->Option AV
 |x,[]=>some x
 | .int k a,.int k' b::rest=>if k=k' then Ii lt (.int k (if lt a b then b else a)) rest else none
 |_,_=>none
def nD (P:Program) (g:Hp) (nx:Nat) (b:Builtin) (ts:Array TypeId) (args:List AV):Option (AV×List (Nat×Option aI)):=
 match b,args with
 | .len,[x]=>(Qq P g (ts.getD 0 0) x).map fun v=>(v,[])
 | .append,[s,x]=>if ts.getD 1 0=ts.getD 0 0 then(match Be P g nx (ts.getD 0 0) s x with
  |some r=>some r
  |none=>(match gI P g nx (ts.getD 0 0) s x with
   |some r=>some r
   |none=>kE P g nx (ts.getD 0 0) s x)) else Ag P g nx (ts.getD 0 0) (ts.getD 1 0) s x
 | .max,x::rest=>(Ii (fun a b=>a<b) x rest).map fun v=>(v,[])
 | .min,x::rest=>(Ii (fun a b=>b<a) x rest).map fun v=>(v,[])
 | .copy,[d,x]=>pF P g (ts.getD 0 0) d x
 | .clear,[x]=>mX P g (ts.getD 0 0) x
 | .cap,[x]=>if(nN P (ts.getD 0 0)).isSome then(sQ x).map fun v=>(v,[]) else none
 |_,_=>none
def evs (P:Program) (G:Nat->Option (List AV)) (s:List AV) (ts:Array TypeId):Nat->List Operand->List AV
 |_,[]=>[]
 |i,x::rest=>ev P G s (ts.getD i 0) x::evs P G s ts (i+1) rest
def aLs (f:AV) (args:List AV):Option kM:=
 match f with
 | .fn f first cap=>some (.call f (first++args++cap))
 | .yld key=>some (.yield key args)
 |_=>none
def evo (P:Program) (G:Nat->Option (List AV)) (s:List AV) (x:Option Operand):Option AV:=x.map (ev P G s 0)
def bH (P:Program) (e:TypeId):Option (Nat×AV):=
 match sz P e,dX P e with
 | some n,some z=>
  if ag P e then(if z.length=n/\0<n then some (n,.agg z) else none)
  else match z with
   |[x]=>if n=1/\x.one then some (1,x) else none
   |_=>none
 |_,_=>none
def setRows (n:Nat):List AV->List (Nat×AV)->Option (List AV)
 |rows,[]=>some rows
 |rows,(i,v)::rest=>if v.isUndef=false/\v.cells.length=n/\i<rows.length then setRows n (rows.set i v) rest else none
def xU (P:Program) (nx:Nat) (t:TypeId) (len:Nat) (parts:List (Nat×AV)):Option kM:=
 match nN P t with
 |none=>none
 | some e=>match bH P e with
  |none=>none
  | some (n,z)=>
   if len*n<=16777216 then
    match setRows n (List.replicate len z) (parts.map fun p=>(p.1,p.2.strip)) with
    |none=>none
    |some rows=>
     if rows.all AV.pureV then some (.val (.sl n rows .full) [])
     else if rows.all fun r=>(r.cells.all AV.one) then some (.val (.msl nx 0 len n) [(nx,some (.cells (rows.flatMap AV.cells)))]) else none
   else none
abbrev Gl:=Nat->Option (List AV)
def aEm (P:Program) (G:Gl) (s:List AV) (ty:TypeId) (c a b:Operand):Option kM:=
 match ev P G s ty c with
 | .bool q=>some (.val (AV.ite q (ev P G s ty a) (ev P G s ty b)) [])
 |_=>none
def aAx (P:Program) (nx:Nat) (e:TypeId):Option kM:=
 match dX P e with
 |some z=>some (.val (.ptr nx 0) [(nx,some (.cells z))])
 |none=>none
def oBox (P:Program) (G:Gl) (s:List AV) (nx:Nat) (e:TypeId) (x:Operand):Option kM:=
 let v:=ev P G s e x
 if v.isUndef then none else some (.val (.ptr nx 0) [(nx,some (.cells v.cells))])
def aAy (P:Program) (G:Gl) (s:List AV) (t:TypeId) (ps:Array (Nat×Operand)):Option kM:=
 match dX P t,places P t with
 |some z,some pl=>((wO (fun i=>pl[i]?) z (ps.toList.map fun p=>(p.1,ev P G s (dQ P t p.1) p.2))).map .agg).map fun v=> .val v []
 |_,_=>none
def wJ (P:Program) (G:Gl) (s:List AV) (nx:Nat) (t:TypeId) (len:Nat) (ps:Array (Nat×Operand)):Option kM:=
 xU P nx t len (ps.toList.map fun p=>(p.1,ev P G s (dQ P t 0) p.2))
def oNil (P:Program) (G:Gl) (s:List AV) (ty:TypeId) (x:Operand):Option kM:=
 let v:=ev P G s ty x
 match v with
 | .ptr _ _| .vp _| .fn _ _ _=>some (.val v [])
 |_=>none
def aEn (P:Program) (G:Gl) (s:List AV) (a b:TypeId) (x:Operand):Option kM:=
 match P.underlying a,P.underlying b,ev P G s a x with
 |some _,some (.int k),.int _ n=>some (.val (.int k (k.wrap n)) [])
 |some _,some .string,.str q=>some (.val (.str q) [])
 |_,_,_=>none
def aEo (P:Program) (G:Gl) (s:List AV) (f:Fn) (first cap:Array Operand):Option kM:=
 match f with
 | .func f=>some (.val (.fn f (first.toList.map (ev P G s 0)) (cap.toList.map (ev P G s 0))) [])
 |_=>none
def Qr (P:Program) (G:Gl) (s:List AV) (x:Operand) (i:Nat):Option kM:=
 match ev P G s 0 x with
 | .tup vs=>(vs[i]?).map fun v=> .val v []
 |_=>none
def Qs (P:Program) (G:Gl) (s:List AV) (g:Hp) (nx:Nat) (c:Call):Option kM:=
 match c.callee with
 | .builtin b=>if c.argTypes.size=c.args.size then(nD P g nx b c.argTypes (evs P G s c.argTypes 0 c.args.toList)).map fun r=> .val r.1 r.2 else none
 | .value f=>aLs (ev P G s 0 f) (evs P G s c.argTypes 0 c.args.toList)
 | .invoke _ _=>none
def Ah (P:Program) (G:Nat->Option (List AV)) (s:List AV) (g:Hp) (nx:Nat) (o:Oper):Option kM:=
 match o.op with
 | .move x=>some (.val (ev P G s o.type x) [])
 | .assign x=>some (.val (ev P G s o.type x) [])
 | .pick c a b=>aEm P G s o.type c a b
 | .alloc e=>aAx P nx e
 | .box e x=>oBox P G s nx e x
 | .build t ps=>aAy P G s t ps
 | .buildSlice t len ps=>wJ P G s nx t len ps
 | .load t a=>(Jv P g t (ev P G s o.type a)).map fun v=> .val v []
 | .store t a x=>(Af P g t (ev P G s 0 a) (ev P G s t x)).map .skip
 | .nilCheck x=>oNil P G s o.type x
 | .binOp op t x y _=>(abin P op t (ev P G s t x) (ev P G s t y)).map fun v=> .val v []
 | .unOp op t x=>(aun op (ev P G s t x)).map fun v=> .val v []
 | .convert a b x=>aEn P G s a b x
 | .makeFunc f first cap=>aEo P G s f first cap
 | .slice t x lo hi mx=>(aAt P t (ev P G s t x) (evo P G s lo) (evo P G s hi) (evo P G s mx)).map fun v=> .val v []
 | .fieldAddr t x f=>(aAu P t (ev P G s 0 x) f).map fun v=> .val v []
 | .field t x f=>(aGm P t (ev P G s t x) f).map fun v=> .val v []
 | .indexAddr t x i=>(aAv P t (ev P G s t x) (ev P G s 0 i)).map fun v=> .val v []
 | .index t x i=>(aAw P t (ev P G s t x) (ev P G s 0 i)).map fun v=> .val v []
 | .extract x i=>Qr P G s x i
 | .call c=>Qs P G s g nx c
 |_=>none
variable {P:Program} {G:Nat->Option (List AV)} {M:Mem} {al:Nat->Prop} {hp:Hp} {W w:World}
theorem Yl {I:jZ} {L:Lo} {T:To} (k:Nat) (v:Value):aQ I L T (aB7 k v) v:=by
 unfold aB7
 split
 all_goals first
  |exact aQ.sl (rows:=[]) (b:=0) (o:=0) (c:=0) (fun _=>undef) (Nat.le_refl _) (by simp) (fun q hq=>by simp at hq) (by simp) (by simp) (fun j i hj=>by simp at hj) rfl
  |constructor
theorem Qh {I:jZ} {L:Lo} {T:To}: ∀(ks:List Nat) (vs:List Value),(Em ks vs).length=vs.length/\ ∀i (h:i< (Em ks vs).length) (h':i<vs.length),aQ I L T (Em ks vs)[i] vs[i]
 |ks,[]=>by cases ks<;>exact⟨rfl,fun i h=>by simp [Em] at h⟩
 |[],v::vs=>by
  obtain⟨h1,h2⟩:=Qh (I:=I) (L:=L) (T:=T) [] vs
  refine⟨by simp [Em,h1],fun i h h'=>?_⟩
  cases i with
  |zero=>exact Yl 0 v
  |succ i=>exact h2 i (by simpa [Em] using h) (by simpa using h')
 |k::ks,v::vs=>by
  obtain⟨h1,h2⟩:=Qh (I:=I) (L:=L) (T:=T) ks vs
  refine⟨by simp [Em,h1],fun i h h'=>?_⟩
  cases i with
  |zero=>exact Yl k v
  |succ i=>exact h2 i (by simpa [Em] using h) (by simpa using h')
theorem aJb {I:jZ} {L:Lo} {T:To} (ty:TypeId) (v:Value):aQ I L T (evC P ty v) v:=by
 unfold evC
 split
 ·rename_i cs
  obtain⟨h1,h2⟩:=Qh (I:=I) (L:=L) (T:=T) (Nw P 8 ty) cs.toList
  exact .agg (by simpa using h1.symm) (fun i h h'=>by have:=h2 i h (by simpa using h');rwa [Array.getElem_toList] at this)
 ·exact Yl _ _
def oL (M:Mem) (s:List AV) (tmps:Array Value):Prop:=tmps.size=s.length/\ ∀i (h:i<s.length) (h':i<tmps.size),M.rel s[i] tmps[i]
theorem oL.mono {M M':Mem} (h:M.le M') {s:List AV} {tmps:Array Value} (r:oL M s tmps):oL M' s tmps:=
 ⟨r.1,fun i h1 h2=>M.rel_mono h (r.2 i h1 h2)⟩
theorem oL.get {s:List AV} {tmps:Array Value} (r:oL M s tmps) (t:Nat):M.rel (s.getD t .ud) (tmps.getD t undef):=by
 by_cases h:t<s.length
 ·have h':t<tmps.size:=by rw[r.1];exact h
  simpa [List.getD_eq_getElem?_getD,h,Array.getD,h'] using r.2 t h h'
 ·simp only[List.getD_eq_getElem?_getD,List.getElem?_eq_none (Nat.le_of_not_lt h),Option.getD_none]
  exact .ud
theorem oL.set {s:List AV} {tmps:Array Value} (r:oL M s tmps) (t:Nat) {a:AV} {v:Value} (h:M.rel a v):oL M (s.set t a) (tmps.setIfInBounds t v):=by
 refine⟨by simpa using r.1,fun i h1 h2=>?_⟩
 by_cases e:t=i
 ·subst e
  have h1':t<s.length:=by simpa using h1
  simpa using h
 ·have h1':i<s.length:=by simpa using h1
  have h2':i<tmps.size:=by simpa using h2
  have:=r.2 i h1' h2'
  rw[Array.getElem_setIfInBounds (by simpa using h2'),List.getElem_set]
  simpa [e] using this
theorem fA (inv:Inv G M al hp W w) {s:List AV} {a:Act} (r:oL M s a.tmps) (ty:TypeId) (x:Operand):M.rel (ev P G s ty x) (a.eval x):=by
 cases x with
 |tmp t=>exact r.get t
 | const v=>
  by_cases hv:v= .slice none 0 0
  ·subst hv
   show M.rel (.sl (Aj P ty) [] (qP G ty)) (.slice none 0 0)
   unfold qP
   split
   ·exact aQ.sl (t:= .mut) (rows:=[]) (b:=0) (o:=0) (c:=0) (fun _=>undef) (Nat.le_refl _) (by simp) (fun q hq=>by simp at hq) (by simp) (by simp) (fun j i hj=>by simp at hj) rfl
   ·exact aQ.sl (t:= .full) (rows:=[]) (b:=0) (o:=0) (c:=0) (fun _=>undef) (Nat.le_refl _) (by simp) (fun q hq=>by simp at hq) (by simp) (by simp) (fun j i hj=>by simp at hj) rfl
  ·have:evK P G ty v=evC P ty v:=by
    unfold evK
    split<;>first|rfl|exact absurd rfl hv
   show M.rel (evK P G ty v) v
   rw[this];exact aJb ty v
 |global g=>
  simp only[ev,Act.eval]
  split
  ·rename_i cs hg;exact(inv.glob g cs hg).of_pure
  ·exact .ud
 |func f=>exact .fn rfl rfl (fun i h=>by simp at h) (fun i h=>by simp at h)
theorem Az {t:TypeId} {n:Nat} (h:sz P t=some n): ∃i,P.info? t=some i/\i.size=n:=by
 unfold sz at h
 split at h
 ·rename_i i d hi hd;exact⟨i,hi,by simpa using h⟩
 ·cases h
theorem aF6 {t:TypeId} {n:Nat} (h:sz P t=some n): ∃d,P.underlying t=some d:=by
 unfold sz at h
 split at h
 ·rename_i i d hi hd;exact⟨d,hd⟩
 ·cases h
theorem run_sizeOf {t:TypeId} {n:Nat} (h:sz P t=some n):(sizeOf t).run P w= .ok n w:=by
 obtain⟨i,hi,rfl⟩:=Az h
 simp [sizeOf,typeInfo,hi]
theorem dF {t:TypeId} {d:TypeDesc} (h:P.underlying t=some d):(underlying t).run P w= .ok d w:=by
 simp [underlying,h]
theorem Jp {t:TypeId} {d:TypeDesc} (h:P.underlying t=some d):(isAgg t).run P w= .ok (ag P t) w:=by
 simp only[isAgg,Sem.run_bind,dF h,Result.andThen_ok,ag,h]
 cases d<;>rfl
theorem Addr.add_none (b o n:Nat):(⟨b,o,none⟩:Addr).add n=⟨b,o+n,none⟩:=by
 unfold Addr.add;split<;>simp_all
def qX (L:Lo) (T:To) (I:jZ) (w:World) (b o:Nat) (cs:List AV):Prop:=
 ∀i (h:i<cs.length),∃v,w.cell? ⟨b,o+i,none⟩=some v/\aQ I L T cs[i] v
theorem qX.drop {L T I} {b o:Nat} {cs:List AV} (h:qX L T I w b o cs) (n:Nat):qX L T I w b (o+n) (cs.drop n):=by
 intro i hi
 obtain⟨v,h1,h2⟩:=h (n+i) (by simp at hi;omega)
 exact⟨v,by rw[<-h1];congr 2;omega,by simpa using h2⟩
theorem qX.take {L T I} {b o:Nat} {cs:List AV} (h:qX L T I w b o cs) (n:Nat):qX L T I w b o (cs.take n):=by
 intro i hi
 obtain⟨v,h1,h2⟩:=h i (by simp at hi;omega)
 exact⟨v,h1,by simpa using h2⟩
theorem nM {b:Nat} {c:Array Value} {e:TypeId} {fr:Nat×Nat} (h:w.heap[b]?=some (.cells c e fr)) (i:Nat):w.cell? ⟨b,i,none⟩=c[i]?:=by
 simp [World.cell?,h]
theorem tZ (inv:Inv G M al hp W w) {key:Nat} {cs:List AV} (h:hp key=some (.cells cs)): ∃b,M.L key=some b/\qX M.L M.T M.I w b 0 cs:=by
 obtain⟨b,ob,hb,ho,hl,_,_⟩:=inv.live _ _ h
 cases ob<;>simp only[dC] at hl
 rename_i c e fr
 refine⟨b,by simpa [Mem.blockOf,aI.isTok] using hb,fun i hi=>?_⟩
 have hi':i<c.size:=Nat.lt_of_lt_of_le hi hl.2.1
 exact⟨c[i],by rw[Nat.zero_add,nM ho];simp [hi'],hl.2.2.1 i hi hi'⟩
theorem aLj (inv:Inv G M al hp W w) {cs:List AV} {b o:Nat} (vs:Nat->Value) (hI: ∀q,q<cs.length->M.I b (o+q)=some (vs q))
  (hR: ∀i (hi:i<cs.length),aQ M.I kC noT cs[i] (vs i)):qX M.L M.T M.I w b o cs:=
 fun i hi=>⟨vs i,inv.imm _ _ _ (hI i hi),(hR i hi).of_pure⟩
theorem Ym {L T I} {b o n:Nat} {cs:List AV} (h:qX L T I w b o cs) (hn:n<=cs.length):
  ∃vs:Array Value,(loadCells ⟨b,o,none⟩ n).run P w= .ok vs w/\vs.size=n/\ ∀i (h1:i<n) (h2:i<vs.size) (h3:i<cs.length),aQ I L T cs[i] vs[i]:=by
 have hx: ∀i,∃v,(i<cs.length->w.cell? ⟨b,o+i,none⟩=some v/\ ∀h:i<cs.length,aQ I L T cs[i] v):=by
  intro i
  by_cases hi:i<cs.length
  ·obtain⟨v,h1,h2⟩:=h i hi;exact⟨v,fun _=>⟨h1,fun _=>h2⟩⟩
  ·exact⟨undef,fun h=>absurd h hi⟩
 obtain⟨f,hf⟩:=Classical.axiomOfChoice hx
 refine⟨((List.range n).map f).toArray,run_loadCells w _ n f (fun j hj=>?_),by simp,fun i h1 h2 h3=>?_⟩
 ·rw[Addr.add_none];exact(hf j (by omega)).1
 ·simpa using(hf i h3).2 h3
theorem Nr {L T I} {t:TypeId} {d:TypeDesc} {n:Nat} {b o:Nat} {cs:List AV} {av:AV} (hd:P.underlying t=some d) (hn:sz P t=some n)
  (h:qX L T I w b o cs) (hv:mkv (ag P t) n cs=some av): ∃v,(loadVar t ⟨b,o,none⟩).run P w= .ok v w/\aQ I L T av v:=by
 unfold mkv at hv
 split at hv
 ·rename_i hle
  by_cases ha:ag P t=true
  ·simp only[ha,if_true,Option.some.injEq] at hv
   subst hv
   obtain⟨vs,h1,h2,h3⟩:=Ym (P:=P) h hle
   refine⟨.agg vs,?_,.agg (by simp [h2];omega) (fun i hi hi'=>?_)⟩
   ·simp [loadVar,Jp hd,ha,run_sizeOf hn,h1]
   ·have:i<n:=by simp at hi;omega
    simpa using h3 i this hi' (by omega)
  ·simp only[Bool.not_eq_true] at ha
   simp only[ha,Bool.false_eq_true,if_false] at hv
   cases cs with
   |nil=>simp at hv
   |cons c cs=>
    simp only[List.head?_cons,Option.some.injEq] at hv
    subst hv
    obtain⟨v,h1,h2⟩:=h 0 (by simp)
    refine⟨v,?_,by simpa using h2⟩
    simp only[Nat.add_zero] at h1
    simp [loadVar,Jp hd,ha,h1]
 ·cases hv
end Go.Proofs.Pv
namespace Go.Proofs.Pv
open Go
variable {P:Program} {G:Nat->Option (List AV)} {M:Mem} {al:Nat->Prop} {hp:Hp} {W w:World}
theorem lt_of_heap {b:Nat} {ob:Obj} (h:w.heap[b]?=some ob):b<w.heap.size:=(Array.getElem?_eq_some_iff.1 h).1
theorem Inv.lt_I (inv:Inv G M al hp W w) {b o:Nat} {v:Value} (h:M.I b o=some v):b<w.heap.size:=by
 have:=inv.imm b o v h
 unfold World.cell? at this
 split at this
 ·rename_i h;exact lt_of_heap h
 ·cases this
theorem Inv.lt_F (inv:Inv G M al hp W w) {b:Nat} {ob:Obj} (h:M.F b=some ob):b<w.heap.size:=lt_of_heap (inv.far b ob h)
theorem Inv.noI (inv:Inv G M al hp W w) {b:Nat} (h:w.heap.size<=b) (o:Nat):M.I b o=none:=by
 cases e:M.I b o with
 |none=>rfl
 |some v=>have:=inv.lt_I e;omega
theorem Inv.noF (inv:Inv G M al hp W w) {b:Nat} (h:w.heap.size<=b):M.F b=none:=by
 cases e:M.F b with
 |none=>rfl
 |some v=>have:=inv.lt_F e;omega
def Mem.addL (M:Mem) (k b:Nat) (z:Nat:=0):Mem:= {M with L:=fun q=>if q=k then some b else M.L q,T:=fun q=>if q=k then some (b,0,z) else M.T q}
def Mem.addT (M:Mem) (k:Nat) (x:Nat×Nat×Nat):Mem:= {M with T:=fun q=>if q=k then some x else M.T q}
def Mem.addI (M:Mem) (b lo:Nat) (cs:List Value):Mem:= {M with I:=fun q o=>if q=b/\lo<=o/\o<lo+cs.length then cs[o - lo]? else M.I q o}
def dD (hp:Hp) (k:Nat) (x:Option aI):Hp:=fun q=>if q=k then x else hp q
def lD (al:Nat->Prop) (k:Nat):Nat->Prop:=fun q=>al q\/q=k
theorem Mem.le_addL {k b z:Nat} (h:M.L k=none/\M.T k=none):M.le (M.addL k b z):=by
 refine⟨fun _ _ _ h=>h,fun q x hq=>?_,fun q x hq=>?_,fun _ _ h=>h,fun _ _ _=>rfl⟩
 ·simp only[Mem.addL]
  split
  ·rename_i e;subst e;rw[h.1] at hq;cases hq
  ·exact hq
 ·simp only[Mem.addL]
  split
  ·rename_i e;subst e;rw[h.2] at hq;cases hq
  ·exact hq
theorem Mem.le_addT {k:Nat} {x:Nat×Nat×Nat} (h:M.T k=none):M.le (M.addT k x):=by
 refine⟨fun _ _ _ h=>h,fun _ _ h=>h,fun q y hq=>?_,fun _ _ h=>h,fun _ _ _=>rfl⟩
 simp only[Mem.addT]
 split
 ·rename_i e;subst e;rw[h] at hq;cases hq
 ·exact hq
theorem Mem.le_addI {b lo:Nat} {cs:List Value} (hF:M.F b=none) (h: ∀o,lo<=o->o<lo+cs.length->M.I b o=none):M.le (M.addI b lo cs):=by
 refine⟨fun q o v hq=>?_,fun _ _ h=>h,fun _ _ h=>h,fun _ _ h=>h,fun q o hf=>?_⟩
 ·simp only[Mem.addI]
  split
  ·rename_i e
   obtain⟨rfl,h1,h2⟩:=e
   rw[h o h1 h2] at hq;cases hq
  ·exact hq
 ·simp only[Mem.addI]
  rw[if_neg]
  rintro⟨rfl,_⟩
  exact hf hF
theorem dC.grow {M':Mem} (h:M.le M') {key:Nat} {blk:aI} {ob:Obj} (hl:dC M key blk ob)
  (hI:blk.isTok=true-> ∀b e z,M.T key=some (b,e,z)-> ∀o,e<=o->M'.I b o=none):dC M' key blk ob:=by
 cases blk<;>cases ob<;>simp only[dC] at hl ⊢ <;>try exact hl
 ·obtain⟨b,z,h3,h4⟩:=hl.2.2.2
  exact⟨hl.1,hl.2.1,fun i h1 h2=>M.rel_mono h (hl.2.2.1 i h1 h2),b,z,h.T _ _ h3,h4⟩
 ·obtain⟨h1,b,e,z,h2,h3,h4,h5⟩:=hl
  exact⟨h1,b,e,z,h.T _ _ h2,h3,h4,hI rfl b e z h2⟩
 ·exact⟨hl.1,hl.2.1,fun i h1 h2=>⟨M.rel_mono h (hl.2.2 i h1 h2).1,M.rel_mono h (hl.2.2 i h1 h2).2.1,(hl.2.2 i h1 h2).2.2⟩⟩
 ·obtain⟨⟨b,h1,h2⟩,h3⟩:=hl;exact⟨⟨b,h.L _ _ h1,h2⟩,h3⟩
 ·obtain⟨a,b,d,e,f,g,i,j⟩:=hl;exact⟨a,b,d,e,f,h.L _ _ g,i,fun x h1 h2=>M.rel_mono h (j x h1 h2)⟩
theorem Mem.blockOf_mono {M':Mem} (h:M.le M') {key:Nat} {blk:aI} {b:Nat} (hb:M.blockOf key blk=some b):M'.blockOf key blk=some b:=by
 unfold Mem.blockOf at hb ⊢
 split
 ·rename_i ht
  rw[if_pos ht] at hb
  cases hT:M.T key with
  |none=>simp [hT] at hb
  |some x=>rw[h.T _ _ hT];simpa [hT] using hb
 ·rename_i ht
  rw[if_neg ht] at hb
  exact h.L _ _ hb
theorem Inv.al_of (inv:Inv G M al hp W w) {key:Nat} {blk:aI} (h:hp key=some blk):al key:=by
 obtain⟨b,ob,h1,_⟩:=inv.live _ _ h
 by_cases ha:al key
 ·exact ha
 ·have:=inv.fresh key ha
  unfold Mem.blockOf at h1
  split at h1<;>simp_all
theorem Inv.alloc (inv:Inv G M al hp W w) {nx:Nat} (hn: ¬al nx) {z:Nat} (blk:aI) (ob:Obj) (ht:blk.isTok=false)
  (hl:dC (M.addL nx w.heap.size z) nx blk ob):
  M.le (M.addL nx w.heap.size z)/\Inv G (M.addL nx w.heap.size z) (lD al nx) (dD hp nx (some blk)) W (w.alloc ob):=by
 have hfr:=inv.fresh nx hn
 have hle:M.le (M.addL nx w.heap.size z):=Mem.le_addL hfr
 have hold: ∀k,k<w.heap.size->(w.alloc ob).heap[k]?=w.heap[k]?:=fun k hk=>by
  show(w.heap.push ob)[k]?=_;rw[Array.getElem?_push,if_neg (by omega)]
 have hnew:(w.alloc ob).heap[w.heap.size]?=some ob:=by show(w.heap.push ob)[w.heap.size]?=_;simp
 refine⟨hle,?_⟩
 constructor
 ·intro b o v h
  have h':M.I b o=some v:=h
  rw[World.cell?_of_block (w:=w) (a:=⟨b,o,none⟩) (hold b (inv.lt_I h'))];exact inv.imm b o v h'
 ·intro b x h
  have h':M.F b=some x:=h
  rw[hold b (inv.lt_F h')];exact inv.far b x h'
 ·exact inv.os
 ·exact inv.tape
 ·exact inv.out
 ·intro key hk
  have h1: ¬al key:=fun h=>hk (.inl h)
  have h2:key≠nx:=fun h=>hk (.inr h)
  have:=inv.fresh key h1
  simp [Mem.addL,h2,this]
 ·intro key bk h
  by_cases e:key=nx
  ·subst e
   simp only[dD,if_true,Option.some.injEq] at h
   subst h
   refine⟨w.heap.size,ob,by simp [Mem.blockOf,ht,Mem.addL],hnew,hl,inv.noF (Nat.le_refl _),fun _ o=>inv.noI (Nat.le_refl _) o⟩
  ·simp only[dD,e,if_false] at h
   obtain⟨b,x,h1,h2,h3,h4,h5⟩:=inv.live key bk h
   exact⟨b,x,Mem.blockOf_mono hle h1,by rw[hold b (lt_of_heap h2)];exact h2,h3.grow hle (fun htk b' e' z' hT o ho=>by
    cases bk<;>simp [aI.isTok] at htk
    cases x<;>simp only[dC] at h3
    obtain⟨_,b1,e1,z1,g1,_,_,g4⟩:=h3
    rw[hT] at g1;cases g1;exact g4 o ho),h4,h5⟩
 ·intro k1 k2 b1 b2 b g1 g2 g3 g4
  by_cases e1:k1=nx<;>by_cases e2:k2=nx
  ·rw[e1,e2]
  ·subst e1
   simp only[dD,if_true,Option.some.injEq] at g1
   subst g1
   simp only[dD,e2,if_false] at g2
   obtain⟨b',x,h1,h2,_⟩:=inv.live k2 b2 g2
   have h1':=Mem.blockOf_mono hle h1
   rw[g4] at h1';cases h1'
   simp [Mem.blockOf,ht,Mem.addL] at g3
   have:=lt_of_heap h2;omega
  ·subst e2
   simp only[dD,if_true,Option.some.injEq] at g2
   subst g2
   simp only[dD,e1,if_false] at g1
   obtain⟨b',x,h1,h2,_⟩:=inv.live k1 b1 g1
   have h1':=Mem.blockOf_mono hle h1
   rw[g3] at h1';cases h1'
   simp [Mem.blockOf,ht,Mem.addL] at g4
   have:=lt_of_heap h2;omega
  ·simp only[dD,e1,if_false] at g1
   simp only[dD,e2,if_false] at g2
   obtain⟨x1,_,h1,_⟩:=inv.live k1 b1 g1
   obtain⟨x2,_,h2,_⟩:=inv.live k2 b2 g2
   have h1':=Mem.blockOf_mono hle h1
   have h2':=Mem.blockOf_mono hle h2
   rw[g3] at h1';rw[g4] at h2';cases h1';cases h2'
   exact inv.inj k1 k2 b1 b2 b g1 g2 h1 h2
 ·intro g cells h;exact inv.glob g cells h
 ·intros;trivial
theorem Inv.allocI (inv:Inv G M al hp W w) (c:Array Value) (e:TypeId) (n:Nat) (hn:n<=c.size):
  M.le (M.addI w.heap.size 0 (c.toList.take n))/\Inv G (M.addI w.heap.size 0 (c.toList.take n)) al hp W (w.alloc (.cells c e)):=by
 have hle:M.le (M.addI w.heap.size 0 (c.toList.take n)):=Mem.le_addI (inv.noF (Nat.le_refl _)) fun o _ _=>inv.noI (Nat.le_refl _) o
 have hold: ∀k,k<w.heap.size->(w.alloc (.cells c e)).heap[k]?=w.heap[k]?:=fun k hk=>by
  show(w.heap.push _)[k]?=_;rw[Array.getElem?_push,if_neg (by omega)]
 refine⟨hle,?_⟩
 constructor
 ·intro b o v h
  simp only[Mem.addI] at h
  split at h
  ·rename_i hb
   obtain⟨rfl,_,ho⟩:=hb
   rw[World.cell?_alloc_new]
   simp only[Nat.sub_zero,List.getElem?_take,Nat.zero_add,List.length_take] at h ho
   split at h
   ·simpa using h
   ·cases h
  ·rw[World.cell?_of_block (w:=w) (a:=⟨b,o,none⟩) (hold b (inv.lt_I h))];exact inv.imm b o v h
 ·intro b x h
  have h':M.F b=some x:=h
  rw[hold b (inv.lt_F h')];exact inv.far b x h'
 ·exact inv.os
 ·exact inv.tape
 ·exact inv.out
 ·intro key hk;exact inv.fresh key hk
 ·intro key bk h
  obtain⟨b,x,h1,h2,h3,h4,h5⟩:=inv.live key bk h
  have hb:=lt_of_heap h2
  refine⟨b,x,h1,by rw[hold b hb];exact h2,h3.grow hle (fun htk b' e' z' hT o ho=>?_),h4,fun ht o=>?_⟩
  ·cases bk<;>simp [aI.isTok] at htk
   cases x<;>simp only[dC] at h3
   obtain⟨_,b1,e1,z1,g1,_,_,g4⟩:=h3
   rw[hT] at g1;cases g1
   have:b=b':=by simpa [Mem.blockOf,aI.isTok,hT] using h1.symm
   subst this
   simp only[Mem.addI]
   rw[if_neg (by omega)];exact g4 o ho
  ·simp only[Mem.addI]
   rw[if_neg (by omega)];exact h5 ht o
 ·exact inv.inj
 ·intro g cells h;exact aQ.mono0 hle.I (inv.glob g cells h) (fun _ _ h=>h) (fun _ _ h=>h)
 ·intros;trivial
theorem Inv.turn (inv:Inv G M al hp W w) {w':World} {key b:Nat} {old new:aI} {ob:Obj} (hk:hp key=some old) (hb:M.L key=some b) (ho:old.isTok=false) (hn:new.isTok=false)
  (hos:w'.os=w.os) (htape:w'.tape=w.tape) (hout:w'.output=w.output) (hoth: ∀k,k≠b->w'.heap[k]?=w.heap[k]?) (hnew:w'.heap[b]?=some ob) (hl:dC M key new ob):
  Inv G M al (dD hp key (some new)) W w':=by
 obtain⟨b0,ob0,g1,g2,g3,g4,g5⟩:=inv.live key old hk
 have hb0:b0=b:=by simpa [Mem.blockOf,ho,hb] using g1.symm
 subst hb0
 have hIb: ∀o,M.I b0 o=none:=g5 ho
 constructor
 ·intro q o v h
  have hq:q≠b0:=fun e=>by subst e;rw[hIb o] at h;cases h
  rw[World.cell?_of_block (w:=w) (a:=⟨q,o,none⟩) (hoth q hq)];exact inv.imm q o v h
 ·intro q x h
  have hq:q≠b0:=fun e=>by subst e;rw[g4] at h;cases h
  rw[hoth q hq];exact inv.far q x h
 ·rw[hos];exact inv.os
 ·rw[htape];exact inv.tape
 ·rw[hout];exact inv.out
 ·exact inv.fresh
 ·intro k bk h
  by_cases e:k=key
  ·subst e
   simp only[dD,if_true,Option.some.injEq] at h
   subst h
   exact⟨b0,ob,by simp [Mem.blockOf,hn,hb],hnew,hl,g4,fun _=>hIb⟩
  ·simp only[dD,e,if_false] at h
   obtain⟨q,x,h1,h2,h3,h4,h5⟩:=inv.live k bk h
   have hq:q≠b0:=fun eq=>by subst eq;exact e (inv.inj k key bk old q h hk h1 g1)
   exact⟨q,x,h1,by rw[hoth q hq];exact h2,h3,h4,h5⟩
 ·intro k1 k2 b1 b2 q h1 h2 h3 h4
  have tr: ∀k bk,dD hp key (some new) k=some bk->M.blockOf k bk=some q-> ∃bk',hp k=some bk'/\M.blockOf k bk'=some q:=by
   intro k bk h h'
   by_cases e:k=key
   ·subst e
    simp only[dD,if_true,Option.some.injEq] at h
    subst h
    exact⟨old,hk,by simpa [Mem.blockOf,hn,ho] using h'⟩
   ·simp only[dD,e,if_false] at h
    exact⟨bk,h,h'⟩
  obtain⟨c1,d1,f1⟩:=tr k1 b1 h1 h3
  obtain⟨c2,d2,f2⟩:=tr k2 b2 h2 h4
  exact inv.inj k1 k2 c1 c2 q d1 d2 f1 f2
 ·exact inv.glob
 ·intros;trivial
theorem Inv.drew (inv:Inv G M al hp W w):Inv G M al hp W w.drew:=
 ⟨inv.imm,inv.far,inv.os,inv.tape,inv.out,inv.fresh,inv.live,inv.inj,inv.glob,inv.has⟩
theorem Inv.less (inv:Inv G M al hp W w) {hp':Hp} (h: ∀k b,hp' k=some b->hp k=some b):Inv G M al hp' W w:=
 ⟨inv.imm,inv.far,inv.os,inv.tape,inv.out,inv.fresh,fun k b hk=>inv.live k b (h k b hk),fun k1 k2 b1 b2 b h1 h2=>inv.inj k1 k2 b1 b2 b (h _ _ h1) (h _ _ h2),inv.glob,fun _ _ _=>trivial⟩
theorem Inv.more (inv:Inv G M al hp W w) {al':Nat->Prop} (h: ∀k,al k->al' k):Inv G M al' hp W w:=
 ⟨inv.imm,inv.far,inv.os,inv.tape,inv.out,fun k hk=>inv.fresh k (fun ha=>hk (h k ha)),inv.live,inv.inj,inv.glob,fun _ _ _=>trivial⟩
end Go.Proofs.Pv
namespace Go.Proofs.Pv
open Go
variable {P:Program} {G:Nat->Option (List AV)} {M:Mem} {al:Nat->Prop} {hp:Hp} {W w:World}
theorem aCd (inv:Inv G M al hp W w) {t:TypeId} {a av:AV} {va:Value} (ha:M.rel a va) (h:Jv P hp t a=some av):
  ∃v,(Instr.loadAt t va).run P w= .ok v w/\M.rel av v:=by
 unfold Jv at h
 split at h
 ·rename_i n key off hn
  split at h
  ·rename_i cs hk
   obtain⟨d,hd⟩:=aF6 hn
   split at h
   ·rename_i hle
    cases ha with
    |ptr hL=>
     obtain⟨b,hb,hc⟩:=tZ inv hk
     rw[hL] at hb;cases hb
     obtain⟨v,h1,h2⟩:=Nr (P:=P) hd hn (by simpa using hc.drop off) h
     exact⟨v,by simp [Instr.loadAt,Instr.sureAddr,h1],h2⟩
   ·cases h
  ·cases h
 ·rename_i n cs hn
  obtain⟨d,hd⟩:=aF6 hn
  cases ha with
  |vp vs hI hR=>
   obtain⟨v,h1,h2⟩:=Nr (P:=P) hd hn (aLj inv vs hI hR) h
   exact⟨v,by simp [Instr.loadAt,Instr.sureAddr,h1],h2⟩
 ·cases h
theorem aA8 {t:TypeId} {i off n:Nat} {ft:TypeId} (h:gX P t i=some (off,n,ft)):
  ∃fs f,P.underlying t=some (.struct fs)/\fs[i]?=some f/\f.offset=off/\f.type=ft/\sz P ft=some n:=by
 unfold gX at h
 split at h
 ·rename_i fs hu
  split at h
  ·rename_i f hf
   split at h
   ·rename_i n' hn
    simp only[Option.some.injEq,Prod.mk.injEq] at h
    obtain⟨rfl,rfl,rfl⟩:=h
    exact⟨fs,f,hu,hf,rfl,rfl,hn⟩
   ·cases h
  ·cases h
 ·cases h
theorem aQ.vp_drop {I:jZ} {L:Lo} {T:To} {cs:List AV} {b o:Nat} (vs:Nat->Value) (hI: ∀q,q<cs.length->I b (o+q)=some (vs q))
  (hR: ∀i (hi:i<cs.length),aQ I kC noT cs[i] (vs i)) (n:Nat):aQ I L T (.vp (cs.drop n)) (.pointer (some ⟨b,o+n,none⟩)):=
 .vp (fun q=>vs (n+q)) (fun q hq=>by rw[Nat.add_assoc];exact hI _ (by simp at hq;omega)) (fun i hi=>by simpa using hR (n+i) (by simp at hi;omega))
theorem aJl {t:TypeId} {x av:AV} {vx:Value} {f:Nat} (hx:M.rel x vx) (h:aAu P t x f=some av):
  ∃v,(Instr.fieldAt t vx f).run P w= .ok v w/\M.rel av v:=by
 unfold aAu at h
 split at h
 ·rename_i off n ft key o hf
  split at h
  ·cases h
  ·rename_i hn
   simp only[Option.some.injEq] at h;subst h
   obtain⟨fs,fl,h1,h2,rfl,rfl,h4⟩:=aA8 hf
   cases hx with
   |ptr hL=>
    refine⟨.pointer (some ⟨_,o+fl.offset,none⟩),?_,.ptr hL⟩
    simp [Instr.fieldAt,dF h1,h2,Instr.sureAddr,fieldPlace,run_sizeOf h4,hn,Addr.add_none]
 ·rename_i off n ft cs hf
  split at h
  ·cases h
  ·rename_i hn
   simp only[Option.some.injEq] at h;subst h
   obtain⟨fs,fl,h1,h2,rfl,rfl,h4⟩:=aA8 hf
   cases hx with
   | @vp _ _ _ b o vs hI hR=>
    refine⟨.pointer (some ⟨b,o+fl.offset,none⟩),?_,aQ.vp_drop vs hI hR _⟩
    have hn0:n≠0:=fun e=>hn (.inl e)
    simp [Instr.fieldAt,dF h1,h2,Instr.sureAddr,fieldPlace,run_sizeOf h4,hn0,Addr.add_none]
 ·cases h
theorem Ky {I:jZ} {L:Lo} {T:To} {t:TypeId} {cs:List AV} {vs:Array Value} {off:Nat} {av:AV} (hs:vs.size=cs.length)
  (hr: ∀i (h:i<cs.length) (h':i<vs.size),aQ I L T cs[i] vs[i]) (h:Ju P t cs off=some av): ∃v,(part t vs off).run P w= .ok v w/\aQ I L T av v:=by
 unfold Ju at h
 split at h
 ·cases h
 ·rename_i n hn
  obtain⟨d,hd⟩:=aF6 hn
  by_cases ha:ag P t=true
  ·simp only[ha,if_true] at h
   split at h
   ·rename_i hle
    simp only[Option.some.injEq] at h;subst h
    refine⟨.agg (vs.extract off (off+n)),by simp [part,Jp hd,ha,run_sizeOf hn],.agg (by simp;omega) (fun i h1 h2=>?_)⟩
    simp at h1 h2
    simpa using hr (off+i) (by omega) (by omega)
   ·cases h
  ·simp only[Bool.not_eq_true] at ha
   simp only[ha,Bool.false_eq_true,if_false] at h
   have hlt:off<cs.length:=by
    rcases Nat.lt_or_ge off cs.length with h'|h'
    ·exact h'
    ·simp [List.getElem?_eq_none h'] at h
   have hlt':off<vs.size:=by omega
   refine⟨vs[off],by simp [part,Jp hd,ha,hlt'],?_⟩
   have:av=cs[off]:=by simpa [hlt] using h.symm
   subst this;exact hr off hlt hlt'
end Go.Proofs.Pv
namespace Go.Proofs.Pv
open Go
variable {P:Program} {G:Nat->Option (List AV)} {M:Mem} {al:Nat->Prop} {hp:Hp} {W w:World}
theorem aQ.vp_row {I:jZ} {L:Lo} {T:To} {k:Nat} {rows:List AV} {b o:Nat} (vs:Nat->Value)
  (hI: ∀q,q<rows.length*k->I b (o+q)=some (vs q)) (hk: ∀r∈rows,r.cells.length=k)
  (hR: ∀j i (hj:j<rows.length) (hi:i< (rows[j]).cells.length),aQ I kC noT ((rows[j]).cells[i]) (vs (j*k+i)))
  (j:Nat) (hj:j<rows.length):aQ I L T (.vp (rows[j]).cells) (.pointer (some ⟨b,o+j*k,none⟩)):=by
 have hl:=hk _ (List.getElem_mem hj)
 refine .vp (fun q=>vs (j*k+q)) (fun q hq=>?_) (fun i hi=>hR j i hj hi)
 rw[Nat.add_assoc]
 refine hI _ ?_
 rw[hl] at hq
 calc j*k+q<j*k+k:=by omega
  _=(j+1)*k:=by rw[Nat.add_mul];omega
  _<=rows.length*k:=Nat.mul_le_mul_right _ hj
theorem aK6 {t:TypeId} {x i av:AV} {vx vi:Value} (hx:M.rel x vx) (hi:M.rel i vi) (h:aAv P t x i=some av):
  ∃v,(Instr.indexAt t vx vi).run P w= .ok v w/\M.rel av v:=by
 unfold aAv at h
 split at h
 case h_2=>cases h
 rename_i q i
 cases hi
 split at h
 ·rename_i e k rows tk hu
  split at h
  ·rename_i n hn
   split at h
   ·rename_i hc
    obtain⟨rfl,h0⟩:=hc
    split at h
    ·rename_i r hr
     simp only[Option.some.injEq] at h;subst h
     obtain⟨hlt,hr'⟩:=List.getElem?_eq_some_iff.1 hr
     subst hr'
     cases hx with
     | @sl _ _ _ c A _ _ b o vs hc hA hI hk hP hR ht=>
      have hA':=hA (by intro e;rw[e] at hlt;simp at hlt)
      subst hA'
      refine⟨.pointer (some ⟨b,o+i.toNat*n,none⟩),?_,aQ.vp_row vs hI hk hR _ hlt⟩
      have hlt2:i< (rows.length:Int):=by omega
      simp [Instr.indexAt,asIntOf,dF hu,h0,hlt2,run_sizeOf hn,Addr.add_none]
    ·cases h
   ·cases h
  ·cases h
 ·rename_i e key off n k hu
  split at h
  ·rename_i hc
   obtain⟨hn,h0,h1⟩:=hc
   simp only[Option.some.injEq] at h;subst h
   cases hx with
   | @msl _ _ _ _ _ _ b c z hL hT hz hc=>
    refine⟨.pointer (some ⟨b,off+i.toNat*k,none⟩),?_,.ptr hL⟩
    simp [Instr.indexAt,asIntOf,dF hu,h0,h1,run_sizeOf hn,Addr.add_none]
  ·cases h
 ·rename_i n e key off hu
  split at h
  ·rename_i k hn
   split at h
   ·rename_i hc
    obtain⟨h0,h1⟩:=hc
    simp only[Option.some.injEq] at h;subst h
    cases hx with
    | @ptr _ _ _ _ b hL=>
     refine⟨.pointer (some ⟨b,off+i.toNat*k,none⟩),?_,.ptr hL⟩
     simp [Instr.indexAt,asIntOf,dF hu,h0,h1,run_sizeOf hn,Addr.add_none,Instr.sureAddr]
   ·cases h
  ·cases h
 ·rename_i n e cs hu
  split at h
  ·rename_i k hn
   split at h
   ·rename_i hc
    obtain⟨h0,h1,h2⟩:=hc
    simp only[Option.some.injEq] at h;subst h
    cases hx with
    | @vp _ _ _ b o vs hI hR=>
     refine⟨.pointer (some ⟨b,o+i.toNat*k,none⟩),?_,aQ.vp_drop vs hI hR _⟩
     simp [Instr.indexAt,asIntOf,dF hu,h0,h1,run_sizeOf hn,Addr.add_none,Instr.sureAddr]
   ·cases h
  ·cases h
 ·cases h
theorem aQ5 {t:TypeId} {x i av:AV} {vx vi:Value} (hx:M.rel x vx) (hi:M.rel i vi) (h:aAw P t x i=some av):
  ∃v,(Instr.index t vx vi).run P w= .ok v w/\M.rel av v:=by
 unfold aAw at h
 split at h
 case h_2=>cases h
 rename_i q i
 cases hi
 split at h
 ·rename_i n e cs hu
  split at h
  ·rename_i k hn
   split at h
   ·rename_i hc
    obtain⟨h0,h1⟩:=hc
    cases hx with
    |agg hs hr=>
     obtain⟨v,h3,h4⟩:=Ky (P:=P) (w:=w) hs hr h
     exact⟨v,by simp [Instr.index,asIntOf,dF hu,h0,h1,run_sizeOf hn,h3],h4⟩
   ·cases h
  ·cases h
 ·rename_i s hu
  split at h
  ·rename_i h0
   split at h
   ·rename_i b hb
    simp only[Option.some.injEq] at h;subst h
    cases hx
    refine⟨.int .u8 b.toNat,?_,.int⟩
    simp [Instr.index,asIntOf,dF hu,h0,hb]
   ·cases h
  ·cases h
 ·cases h
theorem aQ6 {op:BinOp} {k:IntKind} {a b:Int} {av:AV} (h:aAs op k a b=some av) (h1:op≠ .shl) (h2:op≠ .shr) (t:TypeId):
    ∃v,(binOp op t (.int k a) (.int k b)).run P w= .ok v w/\M.rel av v:=by
  cases op<;>simp only[aAs] at h<;>first
    |(cases h;done)
    |(exact absurd rfl h1)
    |(exact absurd rfl h2)
    |(simp only[Option.some.injEq] at h;subst h;exact⟨.int _ _,by simp [binOp,Op.intArith,Op.intBits];done,.int⟩)
    |(simp only[Option.some.injEq] at h;subst h;exact⟨.bool _,by simp [binOp,Op.intCmp];done,.bool⟩)
    | (split at h
       · cases h
       · rename_i hb;simp only[Option.some.injEq] at h;subst h;exact⟨.int _ _,by simp [binOp,Op.intDiv,hb];done,.int⟩)
theorem aV1 {op:BinOp} {a b:ByteArray} {av:AV} (h:aGk op a b=some av) (t:TypeId):
    ∃v,(binOp op t (.string a) (.string b)).run P w= .ok v w/\M.rel av v:=by
  cases op<;>simp only[aGk] at h<;>first
    |(cases h;done)
    |(simp only[Option.some.injEq] at h;subst h;exact⟨.bool _,by simp [binOp,Op.stringOp];done,.bool⟩)
    | (split at h
       · cases h
       · rename_i hb;simp only[Option.some.injEq] at h;subst h;exact⟨.string _,by simp only[binOp,Op.stringOp,hb,if_false];rfl,.str⟩)
def EqOk (P:Program) (w:World) (d D:Nat):Prop:= ∀ {I:jZ} {L:Lo} {T:To} (t:TypeId) (x y:AV) (vx vy:Value) (b:Bool),aQ I L T x vx->aQ I L T y vy->uK P d t x y=some b->
    (Op.equalIn D t vx vy).run P w= .ok b w
theorem aI2 {d D:Nat} (ih:EqOk P w d D) {I:jZ} {L:Lo} {T:To} (xs ys:List AV) (vx vy:Array Value) (h1:vx.size=xs.length) (h2: ∀i (h:i<xs.length) (h':i<vx.size),aQ I L T xs[i] vx[i])
  (h3:vy.size=ys.length) (h4: ∀i (h:i<ys.length) (h':i<vy.size),aQ I L T ys[i] vy[i]): ∀(fs:List Field) (b:Bool),aGl P (uK P d) fs xs ys=some b->(Op.eqFields D vx vy fs).run P w= .ok b w
 |[],b,h=>by simp [aGl] at h;subst h;simp [Op.eqFields]
 | f ::fs,b,h=>by
  unfold aGl at h
  split at h
  ·cases h
  ·rename_i hf
   split at h
   ·rename_i a1 a2 ha hb
    obtain⟨v1,g1,g2⟩:=Ky (P:=P) (w:=w) h1 h2 ha
    obtain⟨v2,g3,g4⟩:=Ky (P:=P) (w:=w) h3 h4 hb
    split at h
    ·rename_i r r' hr hr'
     simp only[Option.some.injEq] at h;subst h
     have e1:=ih f.type a1 a2 v1 v2 r g2 g4 hr
     have e2:=aI2 ih xs ys vx vy h1 h2 h3 h4 fs r' hr'
     simp only[Op.eqFields,hf,ne_eq,not_false_eq_true,if_true,Sem.run_bind,g1,g3,e1,Result.andThen_ok]
     cases r
     ·simp
     ·simp [e2]
    ·cases h
   ·cases h
theorem l7: ∀(d D:Nat),d<=D->EqOk P w d D
 |0,_,_=>by intro t x y vx vy b _ _ h;simp [uK] at h
 | d +1,D,hD=>by
  intro t x y vx vy b hx hy h
  obtain⟨D,rfl⟩: ∃D',D=D'+1:=⟨D - 1,by omega⟩
  unfold uK at h
  split at h
  ·rename_i hu;cases hx;cases hy;simp only[Option.some.injEq] at h;subst h;simp [Op.equalIn,dF hu]
  ·rename_i hu;cases hx;cases hy
   split at h
   ·rename_i hk;subst hk;simp only[Option.some.injEq] at h;subst h;simp [Op.equalIn,dF hu]
   ·cases h
  ·rename_i hu;cases hx;cases hy;simp only[Option.some.injEq] at h;subst h;simp [Op.equalIn,dF hu]
  ·rename_i fs xs ys hu
   split at h
   ·cases h
   ·rename_i hst
    have hf:P.fieldsOf t=fs:=by simp [Program.fieldsOf,hu]
    cases hx with
    | agg hs1 hr1=>
     cases hy with
     |agg hs2 hr2=>
      rw[run_equalIn_struct w D t _ _ (by rw[hf];exact hu) (by simpa using hst),hf]
      exact aI2 (l7 d D (by omega)) xs ys _ _ hs1 hr1 hs2 hr2 fs.toList b h
  ·cases h
theorem pI {op:BinOp} {t:TypeId} {x y:Operand} {a b:Value} (h: ¬(a= .nilIface/\b= .nilIface)) (hg: ∀xs ys,a= .agg xs->b= .agg ys->P.eqGuardType P.depth t=false):
  (eqGuard op t x y a b).run P w= .ok () w:=by
 cases op<;>simp [eqGuard]<;>split<;>first
  |exact absurd ⟨rfl,rfl⟩ h
  |(simp [run_program,hg _ _ rfl rfl];done)
  |simp
theorem aOb (d:Nat) {t e:TypeId} (hu:P.underlying t=some (.pointer e)) (A:Option Addr):(Op.equalIn (d+1) t (.pointer A) (.pointer none)).run P w= .ok A.isNone w:=by
 cases A<;>simp [Op.equalIn,dF hu]
theorem wH (t:TypeId) (x y:Value) (h: ∀a b,¬(x= .string a/\y= .string b)) (h2: ∀k a k' b,¬(x= .int k a/\y= .int k' b)) (h3: ∀k a k' b,¬(x= .float k a/\y= .float k' b))
  (h4: ∀k a c k' b d,¬(x= .complex k a c/\y= .complex k' b d)) {b:Bool} (he:(Op.equalIn 10000 t x y).run P w= .ok b w):
  (binOp .eql t x y).run P w= .ok (.bool b) w/\(binOp .neq t x y).run P w= .ok (.bool (!b)) w:=by
 constructor
 ·cases x<;>cases y<;>first
   |(exfalso;exact h _ _ ⟨rfl,rfl⟩)
   |(exfalso;exact h2 _ _ _ _ ⟨rfl,rfl⟩)
   |(exfalso;exact h3 _ _ _ _ ⟨rfl,rfl⟩)
   |(exfalso;exact h4 _ _ _ _ _ _ ⟨rfl,rfl⟩)
   |(simp only[binOp,Op.equal,Op.maxDepth,Sem.run_bind,he,Result.andThen_ok,Sem.run_pure];done)
 ·cases x<;>cases y<;>first
   |(exfalso;exact h _ _ ⟨rfl,rfl⟩)
   |(exfalso;exact h2 _ _ _ _ ⟨rfl,rfl⟩)
   |(exfalso;exact h3 _ _ _ _ ⟨rfl,rfl⟩)
   |(exfalso;exact h4 _ _ _ _ _ _ ⟨rfl,rfl⟩)
   |(simp only[binOp,Op.equal,Op.maxDepth,Sem.run_bind,he,Result.andThen_ok,Sem.run_pure];done)
theorem aQ7 {op:BinOp} {t:TypeId} {ox oy:Operand} {x y av:AV} {vx vy:Value} (hx:M.rel x vx) (hy:M.rel y vy) (h:abin P op t x y=some av):
    ∃v,(do eqGuard op t ox oy vx vy;binOp op t vx vy:Sem Value).run P w= .ok v w/\M.rel av v:=by
  unfold abin at h
  split at h
  · rename_i k a k' b
    cases hx;cases hy
    have hg:(eqGuard op t ox oy (.int k a) (.int k' b)).run P w= .ok () w:=pI (by simp) (by simp)
    simp only[Sem.run_bind,hg,Result.andThen_ok]
    split at h
    · split at h
      · cases h
      · rename_i hb;simp only[Option.some.injEq] at h;subst h
        exact⟨_,by simp [binOp,Op.shift,hb],.int⟩
    · split at h
      · cases h
      · rename_i hb;simp only[Option.some.injEq] at h;subst h
        exact⟨_,by simp [binOp,Op.shift,hb],.int⟩
    · rename_i h1 h2
      split at h
      · rename_i hk;subst hk;exact aQ6 h h1 h2 t
      · cases h
  · rename_i a b
    cases hx;cases hy
    have hg:(eqGuard op t ox oy (.string a) (.string b)).run P w= .ok () w:=pI (by simp) (by simp)
    simp only[Sem.run_bind,hg,Result.andThen_ok]
    exact aV1 h t
  · rename_i a b
    cases hx;cases hy
    have hg:(eqGuard op t ox oy (.bool a) (.bool b)).run P w= .ok () w:=pI (by simp) (by simp)
    simp only[Sem.run_bind,hg,Result.andThen_ok]
    split at h
    · rename_i hu;simp only[Option.some.injEq] at h;subst h
      exact⟨_,(wH t _ _ (by simp) (by simp) (by simp) (by simp) (run_equalIn_bool w 9999 t a b hu)).1,.bool⟩
    · rename_i hu;simp only[Option.some.injEq] at h;subst h
      exact⟨_,(wH t _ _ (by simp) (by simp) (by simp) (by simp) (run_equalIn_bool w 9999 t a b hu)).2,.bool⟩
    · cases h
  · rename_i xs ys
    cases hx with
    | agg hs1 hr1=>
      cases hy with
      | agg hs2 hr2=>
        split at h
        · split at h
          · cases h
          · rename_i he
            cases hq:uK P 9 t (.agg xs) (.agg ys) with
            |none=>simp [hq] at h
            | some b=>
              simp only[hq,Option.map_some,Option.some.injEq] at h;subst h
              have:=l7 (w:=w) 9 10000 (by omega) t _ _ _ _ b (aQ.agg hs1 hr1) (aQ.agg hs2 hr2) hq
              refine⟨.bool b,?_,.bool⟩
              rw[Sem.run_bind,pI (by simp) (fun _ _ _ _=>by simpa using he),Result.andThen_ok,run_eql_struct,this];rfl
        · split at h
          · cases h
          · rename_i he
            cases hq:uK P 9 t (.agg xs) (.agg ys) with
            |none=>simp [hq] at h
            | some b=>
              simp only[hq,Option.map_some,Option.some.injEq] at h;subst h
              have:=l7 (w:=w) 9 10000 (by omega) t _ _ _ _ b (aQ.agg hs1 hr1) (aQ.agg hs2 hr2) hq
              refine⟨.bool (!b),?_,.bool⟩
              rw[Sem.run_bind,pI (by simp) (fun _ _ _ _=>by simpa using he),Result.andThen_ok,run_neq_struct,this];rfl
        · cases h
  · cases hy
    split at h
    all_goals first
      |(cases h;done)
      | (rename_i hu
         cases hx
         simp only[Option.some.injEq] at h;subst h
         first
           |exact⟨.bool _,by rw[Sem.run_bind,pI (by simp) (by simp),Result.andThen_ok];exact(wH t _ _ (by simp) (by simp) (by simp) (by simp) (aOb 9999 hu _)).1,.bool⟩
           |exact⟨.bool _,by rw[Sem.run_bind,pI (by simp) (by simp),Result.andThen_ok];exact(wH t _ _ (by simp) (by simp) (by simp) (by simp) (aOb 9999 hu _)).2,.bool⟩)
  · cases h
theorem aT4 {op:UnOp} {x av:AV} {vx:Value} (hx:M.rel x vx) (h:aun op x=some av): ∃v,(Op.unary op vx).run P w= .ok v w/\M.rel av v:=by
 unfold aun at h
 split at h
 ·cases hx;simp only[Option.some.injEq] at h;subst h;exact⟨.int _ _,by simp [Op.unary,Op.intArith];done,.int⟩
 ·cases hx;simp only[Option.some.injEq] at h;subst h;exact⟨.bool _,by simp [Op.unary];done,.bool⟩
 ·cases hx;simp only[Option.some.injEq] at h;subst h;exact⟨.int _ _,by simp [Op.unary,Op.intBits];done,.int⟩
 ·cases h
end Go.Proofs.Pv
