/-
The abstract machine, part R: maps, iterators and slices that are made: what the operations on them do, and that it is what the model does.
Conditions: none but those that each statement names.
-/
import Derived.Test.YtlcnbhiklpfpjaaGreatDoorPvU
import Derived.RangeFuncRecord
import Derived.IntWalk
set_option linter.unusedVariables false
set_option linter.unusedSimpArgs false
set_option maxRecDepth 100000
set_option maxHeartbeats 16000000
namespace Go.Proofs.Pv
open Go
variable {P:Program} {G:Nat->Option (List AV)} {M:Mem} {al:Nat->Prop} {hp:Hp} {W w:World}
def aB6:AV->AV->Bool
 | .int k a,.int k' b=>decide (k=k') && decide (a=b)
 | .bool a,.bool b=>a==b
 | .str a,.str b=>a==b
 |_,_=>false
def Yo:List AV->List AV->Bool
 |[],[]=>true
 |x::xs,y::ys=>aB6 x y && Yo xs ys
 |_,_=>false
def AV.litEq:AV->AV->Bool
 | .agg xs,.agg ys=>Yo xs ys
 |x,y=>aB6 x y
theorem aDo {I I':jZ} {L L':Lo} {T T':To} {a b:AV} {v u:Value} (h:aB6 a b=true) (h1:aQ I L T a v) (h2:aQ I' L' T' b u) (n:Nat):Instr.sameBits n v u=true:=by
 cases a<;>cases b<;>simp [aB6] at h
 ·obtain⟨rfl,rfl⟩:=h;cases h1;cases h2;simp [Instr.sameBits]
 ·subst h;cases h1;cases h2;simp [Instr.sameBits]
 ·cases h1;cases h2;simp only[Instr.sameBits];exact h
theorem aDp {I I':jZ} {L L':Lo} {T T':To} (n:Nat): ∀(xs ys:List AV) (vs us:List Value),Yo xs ys=true->bP (aQ I L T) xs vs->bP (aQ I' L' T') ys us->vs.length=us.length/\(vs.zip us).all (fun(x,y)=>Instr.sameBits n x y)=true
 |[],[],vs,us,_,h1,h2=>by
  have e1:vs=[]:=List.eq_nil_of_length_eq_zero h1.1.symm
  have e2:us=[]:=List.eq_nil_of_length_eq_zero h2.1.symm
  subst e1;subst e2;simp
 | x::xs,y::ys,vs,us,h,h1,h2=>by
  match vs,us,h1,h2 with
  |v::vs,u::us,h1,h2=>
   simp only[Yo,Bool.and_eq_true] at h
   obtain⟨g1,g2⟩:=aDp n xs ys vs us h.2 ⟨by simpa using h1.1,fun i a v e1 e2=>h1.2 (i+1) a v (by simpa using e1) (by simpa using e2)⟩ ⟨by simpa using h2.1,fun i a v e1 e2=>h2.2 (i+1) a v (by simpa using e1) (by simpa using e2)⟩
   exact⟨by simp [g1],by simp only[List.zip_cons_cons,List.all_cons,Bool.and_eq_true];exact⟨aDo h.1 (h1.2 0 x v rfl rfl) (h2.2 0 y u rfl rfl) n,g2⟩⟩
  |[],_,h1,_=>simp [bP] at h1
  |_::_,[],_,h2=>simp [bP] at h2
 |[],_::_,_,_,h,_,_=>by simp [Yo] at h
 |_::_,[],_,_,h,_,_=>by simp [Yo] at h
theorem aLq {I I':jZ} {L L':Lo} {T T':To} {a b:AV} {v u:Value} (h:a.litEq b=true) (h1:aQ I L T a v) (h2:aQ I' L' T' b u) (n:Nat):Instr.sameBits (n+1) v u=true:=by
 by_cases hg: ∃xs ys,a= .agg xs/\b= .agg ys
 ·obtain⟨xs,ys,rfl,rfl⟩:=hg
  cases h1 with
  | @agg _ _ _ cs hs hr=>
   cases h2 with
   | @agg _ _ _ cs' hs' hr'=>
    obtain⟨g1,g2⟩:=aDp n xs ys cs.toList cs'.toList h (bP.of_get (by simpa using hs) (fun i e1 e2=>by simpa using hr i e1 (by simpa using e2))) (bP.of_get (by simpa using hs') (fun i e1 e2=>by simpa using hr' i e1 (by simpa using e2)))
    simp only[Array.length_toList] at g1
    simp only[Instr.sameBits,g1,beq_self_eq_true,Bool.true_and]
    exact g2
 ·have:aB6 a b=true:=by
   cases a<;>cases b<;>first|exact h|exact absurd ⟨_,_,rfl,rfl⟩ hg
  exact aDo this h1 h2 _
def akcF (P:Program) (ok:TypeId->AV->Bool):List Field->List AV->Bool
 |[],_=>true
 |f::fs,xs=>
  if f.name= "_" then false else
  match Ju P f.type xs f.offset with
  |some a=>ok f.type a && akcF P ok fs xs
  |none=>false
def Ih (P:Program):Nat->TypeId->AV->Bool
 |0,_,_=>false
 |d+1,t,x=>
  match P.underlying t,x with
  |some .bool,_|some (.int _),_|some .string,_=>true
  |some (.struct fs),.agg xs=>akcF P (Ih P d) fs.toList xs
  |_,_=>false
theorem aDq (d:Nat) (xs:List AV): ∀(fs:List Field),akcF P (Ih P d) fs xs=true-> ∀f∈fs,f.name≠ "_" /\ ∃a,Ju P f.type xs f.offset=some a/\Ih P d f.type a=true
 |[],_,_,hf=>by cases hf
 | g::fs,h,f,hf=>by
  unfold akcF at h
  split at h
  ·cases h
  ·rename_i hn
   split at h
   ·rename_i a ha
    simp only[Bool.and_eq_true] at h
    rcases List.mem_cons.1 hf with rfl|hf
    ·exact⟨hn,a,ha,h.1⟩
    ·exact aDq d xs fs h.2 f hf
   ·cases h
theorem aGh (em:Bool): ∀(d D:Nat),d<=D-> ∀ {I:jZ} {L:Lo} {T:To} (t:TypeId) (x:AV) (v:Value),aQ I L T x v->Ih P d t x=true->(Instr.checkKey em D t v).run P w= .ok () w
 |0,_,_=>by intro t x v _ h;simp [Ih] at h
 | d +1,D,hD=>by
  intro t x v hx h
  obtain⟨D,rfl⟩: ∃D',D=D'+1:=⟨D - 1,by omega⟩
  unfold Ih at h
  split at h
  ·rename_i hu;simp [Instr.checkKey,dF hu]
  ·rename_i hu;simp [Instr.checkKey,dF hu]
  ·rename_i hu;simp [Instr.checkKey,dF hu]
  ·rename_i fs xs hu
   cases hx with
   | @agg _ _ _ cs hs hr=>
    have each:=aDq d xs fs.toList h
    rw[Instr.checkKey]
    simp only[Sem.run_bind,dF hu,Result.andThen_ok]
    rw[<-Array.forIn_toList]
    clear h
    generalize fs.toList=l at each
    induction l with
    |nil=>simp
    |cons f l ih=>
     obtain⟨hn,a,ha,hk⟩:=each f (by simp)
     obtain⟨u,p1,p2⟩:=Ky (P:=P) (w:=w) hs hr ha
     have p3:=aGh em d D (by omega) f.type a u p2 hk
     simp only[List.forIn_cons,Sem.run_bind,hn,ne_eq,not_false_eq_true,if_true,Result.andThen_ok,p1,p3,Sem.run_pure]
     exact ih (fun y hy=>each y (by simp [hy]))
  ·cases h
def oZ (P:Program) (kt:TypeId) (k:AV):List ME->Nat->Option (Option Nat)
 |[],_=>some none
 |e::es,i=>match uK P 9 kt k e.key with
  |some true=>some (some i)
  |some false=>oZ P kt k es (i+1)
  |none=>none
def Ad (M:Mem) (es:List ME) (es':Array MapEntry):Prop:=es'.size=es.length/\ ∀i (h:i<es.length) (h':i<es'.size),M.rel es[i].key es'[i].key/\M.rel es[i].val es'[i].val/\es'[i].born=es[i].born
def iY (M:Mem) (es:List ME) (es':List MapEntry):Prop:=es'.length=es.length/\ ∀(i:Nat) e e',es[i]?=some e->es'[i]?=some e'->M.rel e.key e'.key/\M.rel e.val e'.val/\e'.born=e.born
theorem Ad.toL {es:List ME} {es':Array MapEntry} (h:Ad M es es'):iY M es es'.toList:=by
 refine⟨by simpa using h.1,fun i e e' h1 h2=>?_⟩
 obtain⟨g1,rfl⟩:=List.getElem?_eq_some_iff.1 h1
 obtain⟨g2,rfl⟩:=List.getElem?_eq_some_iff.1 h2
 have:=h.2 i g1 (by simpa using g2)
 simpa using this
theorem iY.tail {e:ME} {es:List ME} {e':MapEntry} {es':List MapEntry} (h:iY M (e::es) (e'::es')):iY M es es':=
 ⟨by simpa using h.1,fun i a b h1 h2=>h.2 (i+1) a b (by simpa using h1) (by simpa using h2)⟩
theorem aLr {kt:TypeId} {kd:TypeDesc} (hu:P.underlying kt=some kd) {x y:AV} {v u:Value} {b b':Bool} (hx:M.rel x v) (hy:M.rel y u) (h:uK P 9 kt x y=some b) (h':Instr.sameNow kd v u=some b'):b'=b:=by
 unfold uK at h
 rw[hu] at h
 split at h
 ·rename_i he
  simp only[Option.some.injEq] at he;subst he
  cases hx;cases hy;simp [Instr.sameNow] at h';simp_all
 ·rename_i he
  simp only[Option.some.injEq] at he;subst he
  cases hx;cases hy
  split at h
  ·rename_i hk;subst hk;simp [Instr.sameNow] at h';simp_all
  ·cases h
 ·rename_i he
  simp only[Option.some.injEq] at he;subst he
  cases hx;cases hy;simp [Instr.sameNow] at h';simp_all
 ·rename_i he
  simp only[Option.some.injEq] at he;subst he
  cases hx;cases hy;simp [Instr.sameNow] at h'
 ·cases h
theorem aAr {kt:TypeId} {kd:TypeDesc} (hu:P.underlying kt=some kd) {k:AV} {vk:Value} (hk:M.rel k vk): ∀(es:List ME) (es':List MapEntry) (i:Nat) (r:Option Nat) (r':Option (Nat×Value)),iY M es es'->oZ P kt k es i=some r->Instr.findNow kd vk es' i=some r'->
  (match r with|none=>r'=none|some j=> ∃e',i<=j/\es'[j - i]?=some e'/\r'=some (j,e'.val))
 |[],es',i,r,r',hr,h,h'=>by
  have:es'=[]:=List.eq_nil_of_length_eq_zero hr.1
  subst this
  simp [oZ] at h;simp [Instr.findNow] at h';subst h;subst h';rfl
 | e ::es,es',i,r,r',hr,h,h'=>by
  match es',hr,h' with
  |[],hr,_=>simp [iY] at hr
  | e' ::es',hr,h'=>
   have h0:=hr.2 0 e e' rfl rfl
   unfold oZ at h
   unfold Instr.findNow at h'
   cases hq:uK P 9 kt k e.key with
   |none=>rw[hq] at h;cases h
   | some b=>
    rw[hq] at h
    cases hs:Instr.sameNow kd vk e'.key with
    |none=>rw[hs] at h';cases h'
    | some b'=>
     rw[hs] at h'
     have hb:=aLr hu hk h0.1 hq hs
     subst hb
     cases b' with
     |true=>
      simp only[Option.some.injEq] at h h';subst h;subst h'
      exact⟨e',Nat.le_refl _,by simp,rfl⟩
     | false=>
      have:=aAr hu hk es es' (i+1) r r' hr.tail h h'
      cases r with
      |none=>exact this
      |some j=>
       obtain⟨x,h1,h2,h3⟩:=this
       refine⟨x,by omega,?_,h3⟩
       rw[show j - i=(j - (i+1))+1 by omega];simpa using h2
theorem Rq {kt:TypeId} {k:AV} {vk:Value} (hk:M.rel k vk): ∀(es:List ME) (es':List MapEntry) (i:Nat) (r:Option Nat),iY M es es'->oZ P kt k es i=some r->
  ∃r',(Instr.findAsking kt vk es' i).run P w= .ok r' w/\(match r with|none=>r'=none|some j=> ∃e',i<=j/\es'[j - i]?=some e'/\r'=some (j,e'.val))
 |[],es',i,r,hr,h=>by
  have:es'=[]:=List.eq_nil_of_length_eq_zero hr.1
  subst this
  simp [oZ] at h;subst h
  exact⟨none,by simp [Instr.findAsking],rfl⟩
 | e ::es,es',i,r,hr,h=>by
  match es',hr with
  |[],hr=>simp [iY] at hr
  | e'::es',hr=>
   have h0:=hr.2 0 e e' rfl rfl
   unfold oZ at h
   cases hq:uK P 9 kt k e.key with
   |none=>rw[hq] at h;cases h
   | some b=>
    rw[hq] at h
    have he:(Op.equal kt vk e'.key).run P w= .ok b w:=l7 (P:=P) (w:=w) 9 Op.maxDepth (by decide) kt k e.key vk e'.key b hk h0.1 hq
    cases b with
    |true=>
     simp only[Option.some.injEq] at h;subst h
     exact⟨some (i,e'.val),by simp [Instr.findAsking,he],e',Nat.le_refl _,by simp,rfl⟩
    | false=>
     obtain⟨r',h1,h2⟩:=Rq hk es es' (i+1) r hr.tail h
     refine⟨r',by simp [Instr.findAsking,he,h1],?_⟩
     cases r with
     |none=>exact h2
     |some j=>
      obtain⟨x,g1,g2,g3⟩:=h2
      refine⟨x,by omega,?_,g3⟩
      rw[show j - i=(j - (i+1))+1 by omega];simpa using g2
theorem Fz {kt:TypeId} {kd:TypeDesc} (hu:P.underlying kt=some kd) {k:AV} {vk:Value} (hk:M.rel k vk) {es:List ME} {es':List MapEntry} {r:Option Nat} (hr:iY M es es') (h:oZ P kt k es 0=some r):
  ∃r',(Instr.findKey kt vk es').run P w= .ok r' w/\(match r with|none=>r'=none|some j=> ∃e',es'[j]?=some e'/\r'=some (j,e'.val)):=by
 unfold Instr.findKey
 simp only[Sem.run_bind,dF hu,Result.andThen_ok]
 cases hf:Instr.findNow kd vk es' 0 with
 |some r'=>
  have:=aAr hu hk es es' 0 r r' hr h hf
  refine⟨r',by simp,?_⟩
  cases r with
  |none=>exact this
  |some j=>obtain⟨x,_,h2,h3⟩:=this;exact⟨x,by simpa using h2,h3⟩
 |none=>
  obtain⟨r',h1,h2⟩:=Rq (P:=P) (w:=w) hk es es' 0 r hr h
  refine⟨r',h1,?_⟩
  cases r with
  |none=>exact h2
  |some j=>obtain⟨x,_,h2,h3⟩:=h2;exact⟨x,by simpa using h2,h3⟩
def zval (P:Program) (t:TypeId):Option AV:=
 match P.info? t with
 |some i=>match i.zero with
  |some z=>some (evC P t z)
  |none=>none
 |none=>none
def yV (g:Hp):AV->Option (List ME)
 | .nilm=>some []
 | .map key=>match g key with
  |some (.map es _)=>some es
  |_=>none
 |_=>none
def nS (P:Program) (G:Nat->Option (List AV)) (s:List AV) (g:Hp) (nx:Nat) (o:Oper):Option kM:=
 let E:=ev P G s
 match o.op with
 | .makeMap t r=>match r with
  |none=>some (.val (.map nx) [(nx,some (.map [] 0))])
  |some h=>match P.underlying t,E 0 h with
   |some (.map _ _),.int _ _=>some (.val (.map nx) [(nx,some (.map [] 0))])
   |_,_=>none
 | .lookup t x i ok=>match P.underlying t,yV g (E t x) with
  | some (.map kt et),some es=>
   if Ih P 9 kt (E kt i) then
    match oZ P kt (E kt i) es 0,zval P et with
    |some (some j),_=>match es[j]? with
     |some e=>some (.val (if ok then .tup [e.val,.bool true] else e.val) [])
     |none=>none
    |some none,some z=>some (.val (if ok then .tup [z,.bool false] else z) [])
    |_,_=>none
   else none
  |_,_=>none
 | .mapUpdate t m k v| .insert t m k v=>match P.underlying t,E t m with
  | some (.map kt et),.map key=>match g key with
   | some (.map es clock)=>
    if Ih P 9 kt (E kt k) then
     match oZ P kt (E kt k) es 0 with
     |some (some j)=>match es[j]? with
      |some e=>if e.key.litEq (E kt k) then some (.skip [(key,some (.map (es.set j ⟨E kt k,E et v,e.born⟩) clock))]) else none
      |none=>none
     |some none=>some (.skip [(key,some (.map (es++[⟨E kt k,E et v,clock⟩]) (clock+1)))])
     |none=>none
    else none
   |_=>none
  |_,_=>none
 | .range t x=>match P.underlying t,E t x with
  |some .string,.str q=>some (.val (.ptr nx 0) [(nx,some (.sit q 0))])
  |some (.map _ _),.nilm=>some (.val (.ptr nx 0) [(nx,some .nmit)])
  |some (.map _ _),.map key=>match g key with
   |some (.map _ clock)=>some (.val (.ptr nx 0) [(nx,some (.mit key clock [] clock))])
   |_=>none
  |_,_=>none
 |_=>none
theorem Ut (inv:Inv G M al hp W w) {key b:Nat} (hL:M.L key=some b) {es:List ME} {clock:Nat} (h:hp key=some (.map es clock)): ∃es',w.heap[b]?=some (.map es' clock)/\Ad M es es':=by
 obtain⟨b0,ob,g1,g2,g3,g4,g5⟩:=inv.live key _ h
 have hb:b0=b:=by simpa [Mem.blockOf,aI.isTok,hL] using g1.symm
 subst hb
 cases ob<;>simp only[dC] at g3
 obtain⟨rfl,g6,g7⟩:=g3
 exact⟨_,g2,g6,g7⟩
theorem aUf (inv:Inv G M al hp W w) {x:AV} {v:Value} (hx:M.rel x v) {es:List ME} (h:yV hp x=some es):
  ∃es':Array MapEntry,Ad M es es'/\((v= .map none/\es'= #[])\/ ∃b cl,v= .map (some b)/\w.heap[b]?=some (.map es' cl)):=by
 cases hx<;>simp only[yV] at h<;>try (cases h;done)
 ·rename_i key b hL
  split at h
  ·rename_i es0 cl hk
   simp only[Option.some.injEq] at h;subst h
   obtain⟨es',g1,g2⟩:=Ut inv hL hk
   exact⟨es',g2,.inr ⟨b,cl,rfl,g1⟩⟩
  ·cases h
 ·simp only[Option.some.injEq] at h;subst h
  exact⟨#[],⟨rfl,fun i h=>by simp at h⟩,.inl ⟨rfl,rfl⟩⟩
theorem aUg {t:TypeId} {z:AV} (h:zval P t=some z): ∃zv,(zeroValue t).run P w= .ok zv w/\ ∀ {I:jZ} {L:Lo} {T:To},aQ I L T z zv:=by
 unfold zval at h
 split at h
 ·rename_i i hi
  split at h
  ·rename_i zv hz
   simp only[Option.some.injEq] at h;subst h
   exact⟨zv,by simp [zeroValue,typeInfo,hi,hz],aJb t zv⟩
  ·cases h
 ·cases h
theorem aH1 {es:List ME} {es':Array MapEntry} (h:Ad M es es'):es'.isEmpty=es.isEmpty:=by
 have:=h.1
 cases es<;>simp_all [Array.isEmpty]
theorem aPd (inv:Inv G M al hp W w) {t kt et:TypeId} {x k:AV} {vx vk:Value} (hx:M.rel x vx) (hk:M.rel k vk) (hu:P.underlying t=some (.map kt et)) {es:List ME} (he:yV hp x=some es) (hc:Ih P 9 kt k=true) (ok:Bool):
  (∀j e,oZ P kt k es 0=some (some j)->es[j]?=some e-> ∃v,(Instr.lookup t vx vk ok).run P w= .ok v w/\M.rel (if ok then .tup [e.val,.bool true] else e.val) v)/\
  (∀z,oZ P kt k es 0=some none->zval P et=some z-> ∃v,(Instr.lookup t vx vk ok).run P w= .ok v w/\M.rel (if ok then .tup [z,.bool false] else z) v):=by
 obtain⟨es',g1,g2⟩:=aUf inv hx he
 have hcu: ∃kd,P.underlying kt=some kd:=by
  unfold Ih at hc
  cases hkd:P.underlying kt with
  |none=>rw[hkd] at hc;simp at hc
  |some kd=>exact⟨kd,rfl⟩
 obtain⟨kd,hkd⟩:=hcu
 have hck:=aGh (P:=P) (w:=w) es'.isEmpty 9 10000 (by decide) kt k vk hk hc
 have tupRel: ∀(a:AV) (b:Bool) (v:Value),M.rel a v->M.rel (.tup [a,.bool b]) (.tuple #[v,.bool b]):=fun a b v h=>by
  refine .tup rfl (fun i h1 h2=>?_)
  match i,h1 with
  |0,_=>exact h
  |1,_=>exact .bool
 constructor
 ·intro j e hf hj
  obtain⟨r',h1,h2⟩:=Fz (P:=P) (w:=w) hkd hk g1.toL hf
  obtain⟨e',h3,rfl⟩:=h2
  have hv:=(g1.toL.2 j e e' hj h3).2.1
  refine⟨if ok then .tuple #[e'.val,.bool true] else e'.val,?_,by cases ok<;>simp<;>first|exact hv|exact tupRel _ _ _ hv⟩
  rcases g2 with⟨rfl,rfl⟩|⟨b,cl,rfl,hb⟩
  ·simp at h3
  ·simp [Instr.lookup,dF hu,getObj,Sem.run,hb] at hck ⊢
   simp [hck,h1]
 ·intro z hf hz
  obtain⟨r',h1,h2⟩:=Fz (P:=P) (w:=w) hkd hk g1.toL hf
  simp only at h2;subst h2
  obtain⟨zv,hz1,hz2⟩:=aUg (w:=w) hz
  refine⟨if ok then .tuple #[zv,.bool false] else zv,?_,by cases ok<;>simp<;>first|exact hz2|exact tupRel _ _ _ hz2⟩
  rcases g2 with⟨rfl,rfl⟩|⟨b,cl,rfl,hb⟩
  ·simp [Instr.lookup,dF hu] at hck h1 ⊢
   simp [hck,h1,hz1]
  ·simp [Instr.lookup,dF hu,getObj,Sem.run,hb] at hck ⊢
   simp [hck,h1,hz1]
theorem Ad.push {es:List ME} {es':Array MapEntry} (r:Ad M es es') {e:ME} {e':MapEntry} (h:M.rel e.key e'.key/\M.rel e.val e'.val/\e'.born=e.born):Ad M (es++[e]) (es'.push e'):=by
 refine⟨by simp [r.1],fun i h1 h2=>?_⟩
 by_cases hi:i<es.length
 ·rw[List.getElem_append_left hi,Array.getElem_push_lt (by rw[r.1];exact hi)]
  exact r.2 i hi (by rw[r.1];exact hi)
 ·have:i=es.length:=by simp at h1;omega
  subst this
  simp [<-r.1];exact h
theorem Ad.set {es:List ME} {es':Array MapEntry} (r:Ad M es es') {j:Nat} {e:ME} {f:MapEntry->MapEntry} (h: ∀(h':j<es'.size),M.rel e.key (f es'[j]).key/\M.rel e.val (f es'[j]).val/\(f es'[j]).born=e.born):Ad M (es.set j e) (es'.modify j f):=by
 refine⟨by simp [r.1],fun i h1 h2=>?_⟩
 simp only[List.length_set,Array.size_modify] at h1 h2
 rw[List.getElem_set,Array.getElem_modify]
 split
 ·rename_i e1;subst e1;exact h h2
 ·exact r.2 i h1 h2
theorem aGi (inv:Inv G M al hp W w) {t kt et:TypeId} {key:Nat} {x k v:AV} {vx vk vv:Value} (hx:M.rel (.map key) vx) (hk:M.rel k vk) (hv:M.rel v vv) (hu:P.underlying t=some (.map kt et)) {es:List ME} {clock:Nat} (hm:hp key=some (.map es clock)) (hc:Ih P 9 kt k=true):
  (∀j e,oZ P kt k es 0=some (some j)->es[j]?=some e->e.key.litEq k=true-> ∃w',(Instr.mapUpdate t vx vk vv).run P w= .ok () w'/\Inv G M al (dD hp key (some (.map (es.set j ⟨k,v,e.born⟩) clock))) W w')/\
  (oZ P kt k es 0=some none-> ∃w',(Instr.mapUpdate t vx vk vv).run P w= .ok () w'/\Inv G M al (dD hp key (some (.map (es++[⟨k,v,clock⟩]) (clock+1)))) W w'):=by
 have hcu: ∃kd,P.underlying kt=some kd:=by
  unfold Ih at hc
  cases hkd:P.underlying kt with
  |none=>rw[hkd] at hc;simp at hc
  |some kd=>exact⟨kd,rfl⟩
 obtain⟨kd,hkd⟩:=hcu
 have hck:=aGh (P:=P) (w:=w) false 9 10000 (by decide) kt k vk hk hc
 cases hx with
 | @map _ _ _ b hL=>
  obtain⟨es',hb,hr⟩:=Ut inv hL hm
  have hlt:=lt_of_heap hb
  constructor
  ·intro j e hf hj hlit
   obtain⟨r',h1,h2⟩:=Fz (P:=P) (w:=w) hkd hk hr.toL hf
   obtain⟨e',h3,rfl⟩:=h2
   have hjr:=hr.toL.2 j e e' hj h3
   have h3':es'[j]?=some e':=by simpa using h3
   have hsame:Instr.sameBits 10000 e'.key vk=true:=aLq hlit hjr.1 hk 9999
   refine⟨w.putObj b (.map (es'.modify j fun e=> {e with key:=vk,val:=vv}) clock),?_,?_⟩
   ·simp [Instr.mapUpdate,dF hu,getObj,setObj,Sem.run,hb,hck,h1,h3',Instr.keyThatStays,hsame,World.putObj]
   ·refine inv.turn (old:= .map es clock) hm hL rfl rfl rfl rfl rfl (fun q hq=>World.putObj_heap_other hq) (World.putObj_heap_same hlt) ?_
    have hset:=hr.set (j:=j) (e:=⟨k,v,e.born⟩) (f:=fun e=> {e with key:=vk,val:=vv}) (fun h'=>by
     have he:es'[j]=e':=by
      have:=Array.getElem?_eq_getElem h'
      rw[h3'] at this;exact(Option.some.inj this).symm
     exact⟨hk,hv,by show es'[j].born=e.born;rw[he];exact hjr.2.2⟩)
    exact⟨rfl,hset.1,hset.2⟩
  ·intro hf
   obtain⟨r',h1,h2⟩:=Fz (P:=P) (w:=w) hkd hk hr.toL hf
   simp only at h2;subst h2
   refine⟨w.putObj b (.map (es'.push {key:=vk,val:=vv,born:=clock}) (clock+1)),?_,?_⟩
   ·simp [Instr.mapUpdate,dF hu,getObj,setObj,Sem.run,hb,hck,h1,World.putObj]
   ·refine inv.turn (old:= .map es clock) hm hL rfl rfl rfl rfl rfl (fun q hq=>World.putObj_heap_other hq) (World.putObj_heap_same hlt) ?_
    have hset:=hr.push (e:=⟨k,v,clock⟩) (e':= {key:=vk,val:=vv,born:=clock}) ⟨hk,hv,rfl⟩
    exact⟨rfl,hset.1,hset.2⟩
theorem Jt (inv:Inv G M al hp W w) {nx:Nat} (hn: ¬al nx) (blk:aI) (ob:Obj) (ht:blk.isTok=false) (hl: ∀M',M.le M'->dC M' nx blk ob):
  M.le (M.addL nx w.heap.size)/\Inv G (M.addL nx w.heap.size) (lD al nx) (lQ hp [(nx,some blk)]) W (w.alloc ob)/\(M.addL nx w.heap.size).L nx=some w.heap.size:=by
 have hle:M.le (M.addL nx w.heap.size):=Mem.le_addL (inv.fresh nx hn)
 obtain⟨h1,h2⟩:=inv.alloc hn blk ob ht (hl _ hle)
 exact⟨h1,h2,by simp [Mem.addL]⟩
theorem aUh (inv:Inv G M al hp W w) {nx:Nat} (hn: ¬al nx) {s:List AV} {a:Act} (rs:oL M s a.tmps) {o:Oper} {res:kM} (h:nS P G s hp nx o=some res):
  Fb P G M al hp W nx w ((execOp a.eval o).run P w) res:=by
 obtain⟨dst,op,ty,pos,after,guard⟩:=o
 unfold nS at h
 have up: ∀(t:TypeId) (m k v:Operand),(match P.underlying t,ev P G s t m with
  | some (.map kt et),.map key=>match hp key with
   | some (.map es clock)=>
    if Ih P 9 kt (ev P G s kt k) then
     match oZ P kt (ev P G s kt k) es 0 with
     |some (some j)=>match es[j]? with
      |some e=>if e.key.litEq (ev P G s kt k) then some (kM.skip [(key,some (.map (es.set j ⟨ev P G s kt k,ev P G s et v,e.born⟩) clock))]) else none
      |none=>none
     |some none=>some (.skip [(key,some (.map (es++[⟨ev P G s kt k,ev P G s et v,clock⟩]) (clock+1)))])
     |none=>none
    else none
   |_=>none
  |_,_=>none)=some res->Fb P G M al hp W nx w ((do Instr.mapUpdate t (a.eval m) (a.eval k) (a.eval v);pure .skip:Sem Next).run P w) res:=by
  intro t m k v h
  split at h
  ·rename_i kt et key hu hm
   have hmr:=fA (P:=P) inv rs t m
   rw[hm] at hmr
   split at h
   ·rename_i es clock hkm
    split at h
    ·rename_i hc
     obtain⟨g1,g2⟩:=aGi (P:=P) inv (x:= .map key) hmr (fA (P:=P) inv rs kt k) (fA (P:=P) inv rs et v) hu hkm hc
     split at h
     ·rename_i j hf
      split at h
      ·rename_i e he
       split at h
       ·rename_i hlit
        simp only[Option.some.injEq] at h;subst h
        obtain⟨w',q1,q2⟩:=g1 j e hf he hlit
        exact⟨w',M,by simp [q1],M.le_refl,q2.more fun k hk=> .inl hk⟩
       ·cases h
      ·cases h
     ·rename_i hf
      simp only[Option.some.injEq] at h;subst h
      obtain⟨w',q1,q2⟩:=g2 hf
      exact⟨w',M,by simp [q1],M.le_refl,q2.more fun k hk=> .inl hk⟩
     ·cases h
    ·cases h
   ·cases h
  ·cases h
 cases op<;>simp only at h<;>try (cases h;done)
 case makeMap t r=>
  obtain⟨g1,g2,g3⟩:=Jt inv hn (.map [] 0) (.map #[] 0) rfl (fun M' _=>⟨rfl,rfl,fun i h=>by simp at h⟩)
  cases r with
  |none=>
   simp only[Option.some.injEq] at h;subst h
   exact⟨_,_,_,by simp [execOp,Instr.makeMap],g1,g2,.map g3⟩
  | some r=>
   simp only at h
   split at h
   ·rename_i k e q z hu hz
    simp only[Option.some.injEq] at h;subst h
    have hr:=fA (P:=P) inv rs 0 r
    rw[hz] at hr
    generalize hva:a.eval r=vr at hr
    cases hr
    exact⟨_,_,_,by simp [execOp,Instr.makeMap,dF hu,hva,asInt];exact rfl,g1,g2,.map g3⟩
   ·cases h
 case lookup t x i ok=>
  split at h
  ·rename_i kt et es hu he
   split at h
   ·rename_i hc
    obtain⟨g1,g2⟩:=aPd (P:=P) inv (fA (P:=P) inv rs t x) (fA (P:=P) inv rs kt i) hu he hc ok
    split at h
    ·rename_i j hf
     split at h
     ·rename_i e hj
      simp only[Option.some.injEq] at h;subst h
      obtain⟨v,q1,q2⟩:=g1 j e hf hj
      exact lF inv (v:=v) (by simp [execOp,q1]) q2
     ·cases h
    ·rename_i z hf hz
     simp only[Option.some.injEq] at h;subst h
     obtain⟨v,q1,q2⟩:=g2 z hf hz
     exact lF inv (v:=v) (by simp [execOp,q1]) q2
    ·cases h
   ·cases h
  ·cases h
 case mapUpdate t m k v=>exact up t m k v h
 case insert t m k v=>exact up t m k v h
 case range t x=>
  have hx:=fA (P:=P) inv rs t x
  split at h
  ·rename_i q hu hq
   rw[hq] at hx
   simp only[Option.some.injEq] at h;subst h
   generalize hva:a.eval x=vx at hx
   cases hx
   obtain⟨g1,g2,g3⟩:=Jt inv hn (.sit q 0) (.stringIter q 0) rfl (fun M' _=>⟨rfl,rfl⟩)
   exact⟨_,_,_,by simp [execOp,Instr.range,dF hu,hva],g1,g2,.ptr g3⟩
  ·rename_i kt et hu hq
   rw[hq] at hx
   simp only[Option.some.injEq] at h;subst h
   generalize hva:a.eval x=vx at hx
   cases hx
   obtain⟨g1,g2,g3⟩:=Jt inv hn .nmit (.mapIter none 0 #[] 0) rfl (fun M' _=>rfl)
   exact⟨_,_,_,by simp [execOp,Instr.range,dF hu,hva],g1,g2,.ptr g3⟩
  ·rename_i kt et key hu hq
   rw[hq] at hx
   split at h
   ·rename_i es clock hm
    simp only[Option.some.injEq] at h;subst h
    generalize hva:a.eval x=vx at hx
    cases hx with
    | @map _ _ _ b hL=>
     obtain⟨es',hb,hr⟩:=Ut inv hL hm
     obtain⟨g1,g2,g3⟩:=Jt inv hn (.mit key clock [] clock) (.mapIter (some b) clock #[] clock) rfl (fun M' hle=>⟨⟨b,hle.L _ _ hL,rfl⟩,rfl,rfl,rfl⟩)
     exact⟨_,_,_,by simp [execOp,Instr.range,dF hu,hva,getObj,Sem.run,hb],g1,g2,.ptr g3⟩
   ·cases h
  ·cases h
end Go.Proofs.Pv
namespace Go.Proofs.Pv
open Go
variable {P:Program} {G:Nat->Option (List AV)} {M:Mem} {al:Nat->Prop} {hp:Hp} {W w:World}
def aEs:AV->Bool
 | .sl _ (_::_) _=>true
 | .msl _ _ _ _=>true
 |_=>false
theorem aL7 {v:AV} {u:Value} (h:aEs v=true) (hr:M.rel v u): ∃A n c,u= .slice (some A) n c:=by
 unfold aEs at h
 split at h
 ·cases hr with
  |sl vs hc hA hI' hk hP hR ht=>exact⟨_,_,_,by rw[hA (by simp)]⟩
 ·cases hr with
  |msl hL hT hz hc=>exact⟨_,_,_,rfl⟩
 ·cases h
theorem aH9 (d:Nat) {t e:TypeId} (hu:P.underlying t=some (.slice e)) (A:Addr) (n c:Nat):(Op.equalIn (d+1) t (.slice (some A) n c) (.slice none 0 0)).run P w= .ok false w:=by
 simp [Op.equalIn,dF hu]
theorem aS0 (d:Nat) {t e:TypeId} (hu:P.underlying t=some (.slice e)) (c:Nat):(Op.equalIn (d+1) t (.slice none 0 c) (.slice none 0 0)).run P w= .ok true w:=by
 simp [Op.equalIn,dF hu]
def Ry:Operand->Bool
 | .const (.slice none 0 0)=>true
 |_=>false
theorem aCe {x:Operand} (h:Ry x=true):x= .const (.slice none 0 0):=by
 unfold Ry at h
 split at h
 ·rfl
 ·cases h
def aEt:Operand->Bool
 | .const .nilIface=>true
 |_=>false
theorem aL8 {x:Operand} (h:aEt x=true):x= .const .nilIface:=by
 unfold aEt at h
 split at h
 ·rfl
 ·cases h
theorem aIa (d:Nat) {t:TypeId} {ms:Array (String×TypeId)} (hu:P.underlying t=some (.interface ms)):(Op.equalIn (d+1) t .nilIface .nilIface).run P w= .ok true w:=by
 simp [Op.equalIn,dF hu]
theorem aL9 (d:Nat) {t u:TypeId} {v:Value} {ms:Array (String×TypeId)} (hu:P.underlying t=some (.interface ms)):(Op.equalIn (d+1) t (.iface u v) .nilIface).run P w= .ok false w:=by
 simp [Op.equalIn,dF hu]
def Oe (P:Program) (op:BinOp) (t:TypeId) (x:AV) (y:Operand):Option kM:=
 match P.underlying t with
 |some (.slice _)=>if Ry y && aEs x then(match op with
  | .eql=>some (.val (.bool false) [])
  | .neq=>some (.val (.bool true) [])
  |_=>none) else none
 |some (.interface _)=>if aEt y then(match op,x with
  | .eql,.nili=>some (.val (.bool true) [])
  | .neq,.nili=>some (.val (.bool false) [])
  | .eql,.ifc _ _=>some (.val (.bool false) [])
  | .neq,.ifc _ _=>some (.val (.bool true) [])
  |_,_=>none) else none
 |_=>none
def Ak (P:Program) (G:Nat->Option (List AV)) (s:List AV) (nx:Nat) (o:Oper):Option kM:=
 let E:=ev P G s
 match o.op with
 | .makeSlice t l c=>match nN P t,E 0 l,E 0 c with
  |some e,.int _ len,.int _ cap=>match bH P e,dZ P e with
   |some (n,z),some b=>if 0<=len/\len<=cap/\cap<=16777216/\cap.toNat*b<=16777216 then some (.val (.msl nx 0 len.toNat n) [(nx,some (.cells ((List.replicate cap.toNat z).flatMap AV.cells)))]) else none
   |_,_=>none
  |_,_,_=>none
 | .binOp op t x y _=>Oe P op t (E t x) y
 |_=>none
def Gg:AV->Bool
 | .sl _ [] _=>true
 |_=>false
theorem aJn {v:AV} {u:Value} (h:Gg v=true) (hr:M.rel v u): ∃A c,u= .slice A 0 c:=by
 cases v<;>simp [Gg] at h
 rename_i k rows t
 cases rows with
 |nil=>cases hr;exact⟨_,_,rfl⟩
 |cons a r=>simp [Gg] at h
def Dv (P :Program) (G:Nat->Option (List AV)) (s:List AV) (g:Hp) (o:Oper):Option kM:=
  let E:=ev P G s
  match o.op with
  | .next it str=>match E 0 it with
    | .ptr key 0=>match g key,str with
      | some (.sit q pos),true=>
        if pos<q.size then some (.val (.tup [.bool true,.int .i64 pos,.int .i32 (Utf8.decode q pos).1]) [(key,some (.sit q (pos+(Utf8.decode q pos).2)))])
        else some (.val (.tup [.bool false]) [])
      |some .nmit,false=>some (.val (.tup [.bool false]) [])
      | some (.mit m since seen last),false=>match g m with
        | some (.map es clock)=>
          if !seen.isEmpty && !es.isEmpty && es.all (fun e=>decide (e.born>=last)) then none else
          let left:=es.filter fun e=>!seen.contains e.born
          let old:=left.filter (fun e=>decide (e.born<since))
          let new:=left.filter (fun e=>decide (e.born>=since))
          some (.branch ((if old.isEmpty then [(.tup [.bool false],[])] else [])++(old++new).map fun e=>(.tup [.bool true,e.key,e.val],[(key,some (.mit m since (seen++[e.born]) clock))])))
        |_=>none
      |_,_=>none
    |_=>none
  | .entry it=>match E 0 it with
    | .ptr key 0=>match g key with
      | some (.mit m _ seen stepped)=>match seen.getLast?,g m with
        | some st,some (.map es clock)=>if clock=stepped then
            match es.find? (fun e=>e.born==st) with
            |some e=>some (.val (.tup [e.key,e.val]) [])
            |none=>none
          else none
        |_,_=>none
      |_=>none
    |_=>none
  | .binOp op t x y _=>match P.underlying t with
    | some (.slice _)=>if Ry y && Gg (E t x) then(match op with
      | .eql| .neq=>some (.branch [(.bool true,[]),(.bool false,[])])
      |_=>none) else none
    |_=>none
  |_=>none
def jM (P:Program) (G:Nat->Option (List AV)) (s:List AV) (g:Hp) (nx:Nat) (o:Oper):Option kM:=
 match Ah P G s g nx o with
 |some r=>some r
 |none=>match nS P G s g nx o with
  |some r=>some r
  |none=>Ak P G s nx o
def Rz (P:Program) (G:Nat->Option (List AV)) (s:List AV) (g:Hp) (nx:Nat) (o:Oper):Option kM:=
 match jM P G s g nx o with
 |some r=>some r
 |none=>Dv P G s g o
theorem aS1 (inv:Inv G M al hp W w) {nx:Nat} (hn: ¬al nx) {s:List AV} {a:Act} (rs:oL M s a.tmps) {o:Oper} {res:kM} (h:Ak P G s nx o=some res):
  Fb P G M al hp W nx w ((execOp a.eval o).run P w) res:=by
 obtain⟨dst,op,ty,pos,after,guard⟩:=o
 unfold Ak at h
 cases op<;>simp only at h<;>try (cases h;done)
 case binOp op t x y z=>
  unfold Oe at h
  split at h
  ·rename_i e hu
   split at h
   ·rename_i hc
    rw[Bool.and_eq_true] at hc
    have hy:=aCe hc.1
    subst hy
    obtain⟨A,n,c,hv⟩:=aL7 hc.2 (fA (P:=P) inv rs t x)
    have hrun:(Op.equalIn 10000 t (.slice (some A) n c) (.slice none 0 0)).run P w= .ok false w:=aH9 9999 hu A n c
    have hc0:a.eval (.const (.slice none 0 0))= .slice none 0 0:=rfl
    have hd:=wH t (.slice (some A) n c) (.slice none 0 0) (by simp) (by simp) (by simp) (by simp) hrun
    split at h
    ·simp only[Option.some.injEq] at h;subst h
     have:(execOp a.eval ⟨dst,.binOp .eql t x (.const (.slice none 0 0)) z,ty,pos,after,guard⟩).run P w= .ok (.value (.bool false)) w:=by
      simp [execOp,hv,hc0,eqGuard,hd.1]
     exact⟨.bool false,w,M,this,M.le_refl,inv.more (fun k hk=> .inl hk),.bool⟩
    ·simp only[Option.some.injEq] at h;subst h
     have:(execOp a.eval ⟨dst,.binOp .neq t x (.const (.slice none 0 0)) z,ty,pos,after,guard⟩).run P w= .ok (.value (.bool true)) w:=by
      simp [execOp,hv,hc0,eqGuard,hd.2]
     exact⟨.bool true,w,M,this,M.le_refl,inv.more (fun k hk=> .inl hk),.bool⟩
    ·cases h
   ·cases h
  ·rename_i ms hu
   split at h
   ·rename_i hc
    have hy:=aL8 hc
    subst hy
    have hxr:=fA (P:=P) inv rs t x
    generalize hva:a.eval x=vx at hxr
    have hc0:a.eval (.const .nilIface)= .nilIface:=rfl
    split at h
    ·rename_i he
     rw[he] at hxr;cases hxr
     have hd:=wH t .nilIface .nilIface (by simp) (by simp) (by simp) (by simp) (aIa (P:=P) (w:=w) 9999 hu)
     simp only[Option.some.injEq] at h;subst h
     exact⟨.bool true,w,M,by simp [execOp,hva,hc0,eqGuard,hd.1],M.le_refl,inv.more (fun k hk=> .inl hk),.bool⟩
    ·rename_i he
     rw[he] at hxr;cases hxr
     have hd:=wH t .nilIface .nilIface (by simp) (by simp) (by simp) (by simp) (aIa (P:=P) (w:=w) 9999 hu)
     simp only[Option.some.injEq] at h;subst h
     exact⟨.bool false,w,M,by simp [execOp,hva,hc0,eqGuard,hd.2],M.le_refl,inv.more (fun k hk=> .inl hk),.bool⟩
    ·rename_i u0 _ he
     rw[he] at hxr
     cases hxr with
     | @ifc _ _ _ _ v hr=>
     have hd:=wH t (.iface u0 v) .nilIface (by simp) (by simp) (by simp) (by simp) (aL9 (P:=P) (w:=w) 9999 hu)
     simp only[Option.some.injEq] at h;subst h
     exact⟨.bool false,w,M,by simp [execOp,hva,hc0,eqGuard,hd.1],M.le_refl,inv.more (fun k hk=> .inl hk),.bool⟩
    ·rename_i u0 _ he
     rw[he] at hxr
     cases hxr with
     | @ifc _ _ _ _ v hr=>
     have hd:=wH t (.iface u0 v) .nilIface (by simp) (by simp) (by simp) (by simp) (aL9 (P:=P) (w:=w) 9999 hu)
     simp only[Option.some.injEq] at h;subst h
     exact⟨.bool true,w,M,by simp [execOp,hva,hc0,eqGuard,hd.2],M.le_refl,inv.more (fun k hk=> .inl hk),.bool⟩
    ·cases h
   ·cases h
  ·cases h
 case makeSlice t l c=>
  split at h
  ·rename_i e q len q' cap he hl hc
   have hu:=qW he
   split at h
   ·rename_i n z b hz hb
    split at h
    ·rename_i hcond
     obtain⟨c1,c2,c3,c4⟩:=hcond
     simp only[Option.some.injEq] at h;subst h
     obtain⟨ie,zv,hi,hs,hzz,h0,hzl,hzr⟩:=aAc hz
     have hlr:=fA (P:=P) inv rs 0 l
     have hcr:=fA (P:=P) inv rs 0 c
     rw[hl] at hlr;rw[hc] at hcr
     generalize hva:a.eval l=vl at hlr
     generalize hvc:a.eval c=vc at hcr
     cases hlr;cases hcr
     have hby:ie.bytes=b:=by simpa [dZ,hi] using hb
     have hw1:IntKind.i64.wrap len=len:=IntWalk.i64_in len (by omega)
     have hw2:IntKind.i64.wrap cap=cap:=IntWalk.i64_in cap (by omega)
     have hrel:=Eh (R:=aQ M.I M.L M.T) cap.toNat hzl h0 hzr
     obtain⟨g1,g2,g3⟩:=Jk inv hn (c:=(Array.range (cap.toNat*n)).map (zv.cells[· % zv.cells.size]!)) e hrel
     have hL:(M.addL nx w.heap.size ((Array.range (cap.toNat*n)).map (zv.cells[· % zv.cells.size]!)).size).L nx=some w.heap.size:=by simp [Mem.addL]
     have hTT:(M.addL nx w.heap.size ((Array.range (cap.toNat*n)).map (zv.cells[· % zv.cells.size]!)).size).T nx=some (w.heap.size,0,cap.toNat*n):=by simp [Mem.addL]
     have hzz':0+cap.toNat*n<=cap.toNat*n:=by omega
     refine⟨.slice (some ⟨w.heap.size,0,none⟩) len.toNat cap.toNat,w.alloc (.cells ((Array.range (cap.toNat*n)).map (zv.cells[· % zv.cells.size]!)) e),_,?_,g1,g2,.msl hL hTT hzz' (by omega)⟩
     have hb0:(ie.bytes:Int)*cap<=281474976710656:=by
      have:((cap.toNat*b:Nat):Int)<=16777216:=Int.ofNat_le.2 c4
      rw[hby]
      have hc':(cap.toNat:Int)=cap:=Int.toNat_of_nonneg (by omega)
      rw[Int.natCast_mul,hc',Int.mul_comm] at this
      omega
     have hb1: ¬cap.toNat*ie.bytes>roomBytes:=by
      rw[hby];unfold roomBytes
      have:(16777216:Nat)<=2 ^ 47:=by decide
      omega
     have hcond2: ¬((cap<0\/281474976710656< (ie.bytes:Int)*cap)\/len<0\/cap<len):=by omega
     have hbool:((decide (cap<0)||decide ((ie.bytes:Int)*cap>2 ^ 48))||decide (len<0)||decide (len>cap))=false:=by
      have e1: ¬cap<0:=by omega
      have e2: ¬((ie.bytes:Int)*cap>2 ^ 48):=by omega
      have e3: ¬len<0:=by omega
      have e4: ¬len>cap:=by omega
      simp [e1,e3,e4];omega
     have ha1:(asInt (.int q len)).run P w= .ok len w:=by simp [asInt,asIntOf]
     have ha2:(asInt (.int q' cap)).run P w= .ok cap w:=by simp [asInt,asIntOf]
     have hti:(typeInfo e).run P w= .ok ie w:=by simp [typeInfo,hi]
     have hso:(sizeOf e).run P w= .ok n w:=by simp [sizeOf,typeInfo,hi,hs]
     have hro:(askRoom (cap.toNat*ie.bytes)).run P w= .ok () w:=by simp [askRoom,hb1]
     have hzv:(zeroValue e).run P w= .ok zv w:=by simp [zeroValue,typeInfo,hi,hzz]
     simp only[execOp,Instr.makeSlice,Sem.run_bind,dF hu,hva,hvc,ha1,ha2,hti,Result.andThen_ok,hw1,hw2]
     rw[hbool]
     simp only[Bool.false_eq_true,if_false,Sem.run_bind,hro,hso,Result.andThen_ok]
     rcases Nat.eq_zero_or_pos (cap.toNat*n) with hz0|hz0
     ·rw[hz0]
      simp only[if_true,Sem.run_bind,Sem.run_pure,Result.andThen_ok]
      simp [newRow]
      exact congrArg (fun c=>w.alloc (.cells c e)) ((Array.eq_empty_of_size_eq_zero (by simp)).trans (Array.eq_empty_of_size_eq_zero (by simp)).symm)
     ·rw[if_neg (by omega)]
      simp [hzv,newRow]
    ·cases h
   ·cases h
  ·cases h
theorem Vj (inv:Inv G M al hp W w) {key b:Nat} (hL:M.L key=some b) {blk:aI} (ht:blk.isTok=false) (h:hp key=some blk): ∃ob,w.heap[b]?=some ob/\dC M key blk ob:=by
 obtain⟨b0,ob,g1,g2,g3,g4,g5⟩:=inv.live key _ h
 have hb:b0=b:=by simpa [Mem.blockOf,ht,hL] using g1.symm
 subst hb
 exact⟨ob,g2,g3⟩
theorem tup2 {a b:AV} {v u:Value} (h1:M.rel a v) (h2:M.rel b u):M.rel (.tup [a,b]) (.tuple #[v,u]):=by
 refine .tup rfl (fun i g1 g2=>?_)
 match i,g1 with
 |0,_=>exact h1
 |1,_=>exact h2
theorem tup3 {a b c:AV} {v u x:Value} (h1:M.rel a v) (h2:M.rel b u) (h3:M.rel c x):M.rel (.tup [a,b,c]) (.tuple #[v,u,x]):=by
 refine .tup rfl (fun i g1 g2=>?_)
 match i,g1 with
 |0,_=>exact h1
 |1,_=>exact h2
 |2,_=>exact h3
theorem tup1 {a:AV} {v:Value} (h1:M.rel a v):M.rel (.tup [a]) (.tuple #[v]):=by
 refine .tup rfl (fun i g1 g2=>?_)
 match i,g1 with
 |0,_=>exact h1
theorem iY.filter {p:Nat->Bool}: ∀ {es:List ME} {es':List MapEntry},iY M es es'->iY M (es.filter fun e=>p e.born) (es'.filter fun e=>p e.born)
 |[],es',h=>by
  have:es'=[]:=List.eq_nil_of_length_eq_zero h.1
  subst this;exact h
 | e::es,es',h=>by
  match es',h with
  |[],h=>simp [iY] at h
  | e'::es',h=>
   have ih:=iY.filter (p:=p) h.tail
   have h0:=h.2 0 e e' rfl rfl
   simp only[List.filter_cons,h0.2.2]
   cases p e.born
   ·exact ih
   ·refine⟨by simp [ih.1],fun i a b g1 g2=>?_⟩
    cases i with
    |zero=>simp at g1 g2;subst g1;subst g2;exact h0
    |succ i=>exact ih.2 i a b (by simpa using g1) (by simpa using g2)
theorem iY.append {es fs:List ME} {es' fs':List MapEntry} (h:iY M es es') (k:iY M fs fs'):iY M (es++fs) (es'++fs'):=by
 refine⟨by simp [h.1,k.1],fun i a b g1 g2=>?_⟩
 by_cases hi:i<es.length
 ·rw[List.getElem?_append_left hi] at g1
  rw[List.getElem?_append_left (by rw[h.1];exact hi)] at g2
  exact h.2 i a b g1 g2
 ·rw[List.getElem?_append_right (by omega)] at g1
  rw[List.getElem?_append_right (by rw[h.1];omega),h.1] at g2
  exact k.2 _ a b g1 g2
theorem iY.all {p:Nat->Bool}: ∀ {es:List ME} {es':List MapEntry},iY M es es'->(es'.all fun e=>p e.born)=(es.all fun e=>p e.born)
 |[],es',h=>by
  have:es'=[]:=List.eq_nil_of_length_eq_zero h.1
  subst this;rfl
 | e::es,es',h=>by
  match es',h with
  |[],h=>simp [iY] at h
  |e'::es',h=>
   have h0:=h.2 0 e e' rfl rfl
   simp only[List.all_cons,h0.2.2,iY.all (p:=p) h.tail]
theorem iY.find {p:Nat->Bool}: ∀ {es:List ME} {es':List MapEntry} {e:ME},iY M es es'->(es.find? fun e=>p e.born)=some e-> ∃e',(es'.find? fun e=>p e.born)=some e'/\M.rel e.key e'.key/\M.rel e.val e'.val
 |[],_,_,_,h=>by simp at h
 | x::es,es',e,h,hf=>by
  match es',h with
  |[],h=>simp [iY] at h
  | e'::es',h=>
   have h0:=h.2 0 x e' rfl rfl
   simp only[List.find?_cons,h0.2.2] at hf ⊢
   cases hp:p x.born
   ·rw[hp] at hf;exact iY.find h.tail hf
   ·rw[hp] at hf
    simp only[Option.some.injEq] at hf;subst hf
    exact⟨e',rfl,h0.1,h0.2.1⟩
theorem aBb {α:Type} {l:List α} {c:Nat} {x:Option α} (h:(l.map some)[c]?=some x):l[c]?=x/\x≠none:=by
 rw[List.getElem?_map] at h
 cases hl:l[c]? with
 |none=>rw[hl] at h;cases h
 |some y=>rw[hl] at h;simp only[Option.map_some,Option.some.injEq] at h;subst h;exact⟨rfl,by simp⟩
theorem aPs (inv:Inv G M al hp W w) {key m:Nat} {b:Nat} (hL:M.L key=some b) {since last:Nat} {seen:List Nat} (hk:hp key=some (.mit m since seen last)) {es:List ME} {clock:Nat} (hm:hp m=some (.map es clock)) (ty:TypeId)
    (hg: ¬(!seen.isEmpty && !es.isEmpty && es.all (fun e=>decide (e.born>=last)))=true):
    ∃ v u,(v,u)∈(if((es.filter fun e=>!seen.contains e.born).filter (fun e=>decide (e.born<since))).isEmpty then [(AV.tup [.bool false],([]:List (Nat×Option aI)))] else [])++
        (((es.filter fun e=>!seen.contains e.born).filter (fun e=>decide (e.born<since)))++((es.filter fun e=>!seen.contains e.born).filter (fun e=>decide (e.born>=since)))).map
          (fun e=>(AV.tup [.bool true,e.key,e.val],[(key,some (aI.mit m since (seen++[e.born]) clock))]))/\
      ∃v' w',(Instr.next (.pointer (some ⟨b,0,none⟩)) false ty).run P w= .ok v' w'/\Inv G M al (lQ hp u) W w'/\M.rel v v':=by
  obtain⟨ob,hb,hlive⟩:=Vj inv hL rfl hk
  cases ob<;>simp only[dC] at hlive
  obtain⟨⟨bm,hLm,hs0⟩,hs1,hs2,hs3⟩:=hlive
  rw[hs0,hs1,hs2,hs3] at hb
  obtain⟨es',hbm,hr⟩:=Ut inv hLm hm
  have hl:=hr.toL
  have hleft:=iY.filter (p:=fun n=>!seen.contains n) hl
  have hold:=iY.filter (p:=fun n=>decide (n<since)) hleft
  have hnew:=iY.filter (p:=fun n=>decide (n>=since)) hleft
  have hall:=hold.append hnew
  have hg':(!(seen.toArray.isEmpty) && !es'.isEmpty && es'.all (fun e=>decide (e.born>=last)))=false:=by
    have e1:seen.toArray.isEmpty=seen.isEmpty:=by cases seen<;>rfl
    have e2:=aH1 hr
    have e3:=iY.all (p:=fun n=>decide (n>=last)) hl
    rw[e1,e2,<-Array.all_toList,e3]
    simpa using hg
  have hchoose: ∀(N:Nat),0<N-> ∃c w2,(choose (.mapNext N)).run P w= .ok c w2/\c<N/\(w2=w\/w2=w.drew):=by
    intro N hN
    rw[run_choose_drew]
    by_cases hf:(Question.mapNext N).forced=true
    · rw[if_pos hf];exact⟨0,w,rfl,hN,.inl rfl⟩
    · rw[if_neg hf];exact⟨_,_,rfl,Nat.mod_lt _ hN,.inr rfl⟩
  let left':=es'.filter fun e=>!seen.toArray.contains e.born
  let old':=left'.filter (fun e=>decide (e.born<since))
  let new':=left'.filter (fun e=>decide (e.born>=since))
  let cand:=(if old'.isEmpty then #[none] else #[])++(old'++new').map some
  have hleft':left'.toList=es'.toList.filter fun e=>!seen.contains e.born:=by
    show(es'.filter _).toList=_
    rw[Array.toList_filter]
    congr 1;funext e
    simp
  have hold':old'.toList=(es'.toList.filter fun e=>!seen.contains e.born).filter (fun e=>decide (e.born<since)):=by
    show(left'.filter _).toList=_
    rw[Array.toList_filter,hleft']
  have hnew':new'.toList=(es'.toList.filter fun e=>!seen.contains e.born).filter (fun e=>decide (e.born>=since)):=by
    show(left'.filter _).toList=_
    rw[Array.toList_filter,hleft']
  have hemp:old'.isEmpty=((es.filter fun e=>!seen.contains e.born).filter (fun e=>decide (e.born<since))).isEmpty:=by
    have h1:=hold.1
    have h2:old'.size=old'.toList.length:=by simp
    rw[<-hold'] at h1
    generalize (es.filter fun e=>!seen.contains e.born).filter (fun e=>decide (e.born<since))=o at h1
    cases o<;>simp_all [Array.isEmpty]
  have hpos:0<cand.size:=by
    show 0< ((if old'.isEmpty then #[none] else #[])++(old'++new').map some).size
    cases he:old'.isEmpty with
    |true=>simp;omega
    | false=>
      have:0<old'.size:=by
        rcases Nat.eq_zero_or_pos old'.size with h|h
        · simp [Array.isEmpty,h] at he
        · exact h
      simp;omega
  obtain⟨c,w2,hc1,hc2,hw2⟩:=hchoose cand.size hpos
  have inv2:Inv G M al hp W w2:=by
    rcases hw2 with rfl|rfl
    · exact inv
    · exact inv.drew
  have hb2:w2.heap[b]?=some (.mapIter (some bm) since seen.toArray last):=by
    rcases hw2 with rfl|rfl<;>exact hb
  have hcand:cand[c]?=some cand[c]:=Array.getElem?_eq_getElem hc2
  have hrun:(Instr.next (.pointer (some ⟨b,0,none⟩)) false ty).run P w=(match cand[c] with
      | some e=>(do
        setObj b (.mapIter (some bm) since (seen.toArray.push e.born) clock)
        pure (.tuple #[.bool true,e.key,e.val]):Sem Value)
      |none=>pure (.tuple #[.bool false])).run P w2:=by
    simp only[Instr.next,Sem.run_bind,getObj,Sem.run,hb,Result.andThen_ok,hbm]
    rw[if_neg (by rw[hg'];simp)]
    simp only[Sem.run_bind]
    show((choose (.mapNext cand.size)).run P w).andThen _=_
    rw[hc1]
    simp only[Result.andThen_ok]
    show Sem.run P (match cand[c]? with
      |some (some e)=>_
      |some none=>_
      |none=>_) w2=_
    rw[hcand]
    cases cand[c]<;>rfl
  have hlist:cand.toList=(if old'.isEmpty then [none] else [])++(old'.toList++new'.toList).map some:=by
    show((if old'.isEmpty then #[none] else #[])++(old'++new').map some).toList=_
    cases old'.isEmpty<;>simp
  have hget:cand.toList[c]?=some cand[c]:=by simp
  rw[hlist] at hget
  generalize cand[c]=x at hrun hget
  cases x with
  | none=>
    refine⟨.tup [.bool false],[],?_,.tuple #[.bool false],w2,hrun,inv2,tup1 .bool⟩
    cases he:old'.isEmpty with
    |true=>rw[<-hemp,he];simp
    | false=>
      rw[he] at hget
      simp only[Bool.false_eq_true,if_false,List.nil_append] at hget
      exact absurd rfl (aBb hget).2
  | some e'=>
    have hmem: ∃i:Nat,(old'.toList++new'.toList)[i]?=some e':=by
      cases he:old'.isEmpty with
      | true=>
        rw[he] at hget
        cases c with
        |zero=>simp at hget
        | succ c=>
          simp only[if_true,List.singleton_append,List.getElem?_cons_succ] at hget
          exact⟨c,(aBb hget).1⟩
      | false=>
        rw[he] at hget
        simp only[Bool.false_eq_true,if_false,List.nil_append] at hget
        exact⟨c,(aBb hget).1⟩
    obtain⟨i,hi⟩:=hmem
    rw[hold',hnew'] at hi
    have hlt:i< (((es.filter fun e=>!seen.contains e.born).filter (fun e=>decide (e.born<since)))++((es.filter fun e=>!seen.contains e.born).filter (fun e=>decide (e.born>=since)))).length:=by
      rw[<-hall.1];exact(List.getElem?_eq_some_iff.1 hi).1
    have hrel:=hall.2 i _ e' (List.getElem?_eq_getElem hlt) hi
    refine⟨_,_,List.mem_append_right _ (List.mem_map.2 ⟨_,List.getElem_mem hlt,rfl⟩),.tuple #[.bool true,e'.key,e'.val],w2.putObj b (.mapIter (some bm) since (seen.toArray.push e'.born) clock),?_,?_,tup3 .bool hrel.1 hrel.2.1⟩
    · rw[hrun]
      simp [setObj,Sem.run,hb2,World.putObj]
    · refine inv2.turn (old:= .mit m since seen last) hk hL rfl rfl rfl rfl rfl (fun q hq=>World.putObj_heap_other hq) (World.putObj_heap_same (lt_of_heap hb2)) ?_
      exact⟨⟨bm,hLm,rfl⟩,rfl,by rw[hrel.2.2];simp,rfl⟩
theorem aS2 (inv:Inv G M al hp W w) {nx:Nat} {s:List AV} {a:Act} (rs:oL M s a.tmps) {o:Oper} {res:kM} (h:Dv P G s hp o=some res):
  Fb P G M al hp W nx w ((execOp a.eval o).run P w) res:=by
 obtain⟨dst,op,ty,pos,after,guard⟩:=o
 unfold Dv at h
 cases op<;>simp only at h<;>try (cases h;done)
 case next it str=>
  have hit:=fA (P:=P) inv rs 0 it
  split at h
  ·rename_i key hk
   rw[hk] at hit
   generalize hva:a.eval it=vi at hit
   cases hit with
   | @ptr _ _ _ _ b hL=>
    split at h
    ·rename_i q pos' hq
     obtain⟨ob,hb,hlive⟩:=Vj inv hL rfl hq
     cases ob<;>simp only[dC] at hlive
     obtain⟨e1,e2⟩:=hlive
     rw[e1,e2] at hb
     split at h
     ·rename_i hlt
      simp only[Option.some.injEq] at h;subst h
      have inv':=inv.turn (w':=w.putObj b (.stringIter q (pos'+(Utf8.decode q pos').2))) (new:= .sit q (pos'+(Utf8.decode q pos').2)) hq hL rfl rfl rfl rfl rfl (fun q hq=>World.putObj_heap_other hq) (World.putObj_heap_same (lt_of_heap hb)) ⟨rfl,rfl⟩
      exact⟨.tuple #[.bool true,.int .i64 pos',.int .i32 (Utf8.decode q pos').1],w.putObj b (.stringIter q (pos'+(Utf8.decode q pos').2)),M,by simp [execOp,hva,Instr.next,getObj,setObj,Sem.run,hb,hlt,World.putObj,goInt],M.le_refl,inv'.more fun k hk=> .inl hk,tup3 .bool .int .int⟩
     ·rename_i hlt
      simp only[Option.some.injEq] at h;subst h
      exact lF inv (v:= .tuple #[.bool false]) (by simp [execOp,hva,Instr.next,getObj,Sem.run,hb,hlt]) (tup1 .bool)
    ·rename_i hq
     obtain⟨ob,hb,hlive⟩:=Vj inv hL rfl hq
     cases ob<;>simp only[dC] at hlive
     subst hlive
     simp only[Option.some.injEq] at h;subst h
     exact lF inv (v:= .tuple #[.bool false]) (by simp [execOp,hva,Instr.next,getObj,Sem.run,hb]) (tup1 .bool)
    ·rename_i m since seen last hq
     split at h
     ·rename_i es clock hm
      split at h
      ·cases h
      ·rename_i hg
       simp only[Option.some.injEq] at h;subst h
       obtain⟨v,u,h1,v',w',h2,h3,h4⟩:=aPs (P:=P) inv hL hq hm ty hg
       exact⟨v,u,h1,v',w',M,by simp [execOp,hva,h2],M.le_refl,h3.more fun k hk=> .inl hk,h4⟩
     ·cases h
    ·cases h
  ·cases h
 case entry it=>
  have hit:=fA (P:=P) inv rs 0 it
  split at h
  ·rename_i key hk
   rw[hk] at hit
   generalize hva:a.eval it=vi at hit
   cases hit with
   | @ptr _ _ _ _ b hL=>
    split at h
    ·rename_i m since seen stepped hq
     split at h
     ·rename_i st es clock hst hm
      split at h
      ·rename_i hcl
       split at h
       ·rename_i e he
        simp only[Option.some.injEq] at h;subst h
        obtain⟨ob,hb,hlive⟩:=Vj inv hL rfl hq
        cases ob<;>simp only[dC] at hlive
        obtain⟨⟨bm,hLm,hs0⟩,hs1,hs2,hs3⟩:=hlive
        rw[hs0,hs1,hs2,hs3] at hb
        obtain⟨es',hbm,hr⟩:=Ut inv hLm hm
        obtain⟨e',q1,q2,q3⟩:=iY.find (p:=fun n=>n==st) hr.toL he
        have hback:seen.toArray.back?=some st:=by simp [hst]
        have hfind:es'.find? (fun e=>e.born==st)=some e':=by rw[<-Array.find?_toList];exact q1
        exact lF inv (v:= .tuple #[e'.key,e'.val]) (by simp [execOp,hva,Instr.entry,getObj,Sem.run,hb,hbm,hst,hfind,hcl]) (tup2 q2 q3)
       ·cases h
      ·cases h
     ·cases h
    ·cases h
  ·cases h
 case binOp op t x y c=>
  have hx:=fA (P:=P) inv rs t x
  split at h
  ·rename_i e hu
   split at h
   ·rename_i hc
    simp only[Bool.and_eq_true] at hc
    have hy:=aCe hc.1
    subst hy
    obtain⟨A,cc,hv⟩:=aJn hc.2 hx
    have key: ∃b:Bool,(Op.equalIn 10000 t (.slice A 0 cc) (.slice none 0 0)).run P w= .ok b w:=by
     cases A with
     |none=>exact⟨true,aS0 9999 hu cc⟩
     |some A=>exact⟨false,aH9 9999 hu A 0 cc⟩
    obtain⟨b,hb⟩:=key
    have hc0:a.eval (.const (.slice none 0 0))= .slice none 0 0:=rfl
    have hd:=wH t (.slice A 0 cc) (.slice none 0 0) (by simp) (by simp) (by simp) (by simp) hb
    have hal:Inv G M (lD al nx) (lQ hp []) W w:=inv.more fun k hk=> .inl hk
    split at h
    ·simp only[Option.some.injEq] at h;subst h
     refine⟨.bool b,[],by cases b<;>simp,.bool b,w,M,?_,M.le_refl,hal,.bool⟩
     simp [execOp,hv,hc0,eqGuard,hd.1]
    ·simp only[Option.some.injEq] at h;subst h
     refine⟨.bool (!b),[],by cases b<;>simp,.bool (!b),w,M,?_,M.le_refl,hal,.bool⟩
     simp [execOp,hv,hc0,eqGuard,hd.2]
    ·cases h
   ·cases h
  ·cases h
theorem Am (inv:Inv G M al hp W w) {nx:Nat} (hn: ¬al nx) {s:List AV} {a:Act} (rs:oL M s a.tmps) {o:Oper} {res:kM} (h:jM P G s hp nx o=some res):
  Fb P G M al hp W nx w ((execOp a.eval o).run P w) res:=by
 unfold jM at h
 cases h1:Ah P G s hp nx o with
 |some r=>rw[h1] at h;simp only[Option.some.injEq] at h;subst h;exact aTe inv hn rs h1
 |none=>
  rw[h1] at h
  cases h2:nS P G s hp nx o with
  |some r=>rw[h2] at h;simp only[Option.some.injEq] at h;subst h;exact aUh inv hn rs h2
  |none=>rw[h2] at h;exact aS1 inv hn rs h
theorem aUt (inv:Inv G M al hp W w) {nx:Nat} (hn: ¬al nx) {s:List AV} {a:Act} (rs:oL M s a.tmps) {o:Oper} {res:kM} (h:Rz P G s hp nx o=some res):
  Fb P G M al hp W nx w ((execOp a.eval o).run P w) res:=by
 unfold Rz at h
 cases h1:jM P G s hp nx o with
 |some r=>rw[h1] at h;simp only[Option.some.injEq] at h;subst h;exact Am inv hn rs h1
 |none=>rw[h1] at h;exact aS2 inv rs h
end Go.Proofs.Pv
