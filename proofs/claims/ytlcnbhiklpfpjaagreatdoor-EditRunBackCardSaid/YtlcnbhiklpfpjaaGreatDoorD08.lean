/-
Plain laws of lists, for the open proofs: the first one of some things, all of some things.
Conditions: none but those that each statement names.
-/
import Derived.Test.YtlcnbhiklpfpjaaGreatDoorPvBA
import Derived.Test.YtlcnbhiklpfpjaaGreatDoorPvBF
set_option linter.unusedVariables false
set_option linter.unusedSimpArgs false
set_option maxRecDepth 100000
set_option maxHeartbeats 16000000
namespace Go.Proofs.Pv
def oJ {α:Type} (p:α->Bool) (l:List α):Int:=match l.findIdx? p with
 |some i=>i
 |none=> -1
theorem zW {α:Type} {p:α->Bool} {l:List α} {i:Nat} (hi:i<l.length) (hp:p l[i]=true) (hprev: ∀j (h:j<l.length),j<i->p l[j]=false):oJ p l=i:=by
 have:l.findIdx? p=some i:=by
  rw[List.findIdx?_eq_some_iff_getElem]
  exact⟨hi,hp,fun j hj=>by simpa using hprev j (by omega) hj⟩
 simp [oJ,this]
theorem yB {α:Type} {p:α->Bool} {l:List α} (hprev: ∀j (h:j<l.length),p l[j]=false):oJ p l= -1:=by
 have:l.findIdx? p=none:=by
  rw[List.findIdx?_eq_none_iff]
  intro x hx
  obtain⟨j,hj,rfl⟩:=List.mem_iff_getElem.1 hx
  exact hprev j hj
 simp [oJ,this]
theorem Jf {α:Type} (p:α->Bool) (l:List α):decide (oJ p l>=0)=l.any p:=by
 unfold oJ
 cases h:l.findIdx? p with
 |none=>
  rw[List.findIdx?_eq_none_iff] at h
  have:l.any p=false:=by rw[List.any_eq_false];intro x hx;simp [h x hx]
  rw[this];rfl
 |some i=>
  rw[List.findIdx?_eq_some_iff_getElem] at h
  obtain⟨h1,h2,_⟩:=h
  have:l.any p=true:=List.any_eq_true.2 ⟨_,List.getElem_mem h1,h2⟩
  rw[this];simp
theorem oO {q:Nat->Prop}: ∀j,j<0->q j:=fun j h=>absurd h (Nat.not_lt_zero _)
theorem lX {q:Nat->Prop} {i:Nat} (h: ∀j,j<i->q j) (hi:q i): ∀j,j<i+1->q j:=by
 intro j hj
 rcases Nat.lt_succ_iff_lt_or_eq.1 hj with h'|rfl
 ·exact h j h'
 ·exact hi
def Dz (n:Nat) (p:Nat->Bool):Bool:=(List.range n).all p
theorem pV {n:Nat} {p:Nat->Bool} {i:Nat} (hi:i<n) (h:p i=false):Dz n p=false:=by
 unfold Dz
 rw[List.all_eq_false]
 exact⟨i,List.mem_range.2 hi,by simp [h]⟩
theorem Cj {n:Nat} {p:Nat->Bool} (h: ∀i,i<n->p i=true):Dz n p=true:=by
 unfold Dz
 rw[List.all_eq_true]
 intro i hi
 exact h i (List.mem_range.1 hi)
theorem zX {α:Type} {p:α->Bool} {l:List α} {i:Nat} (hi:i<l.length) (h:p l[i]=false):l.all p=false:=by
 rw[List.all_eq_false];exact⟨_,List.getElem_mem hi,by simp [h]⟩
theorem Xc {α:Type} {p:α->Bool} {l:List α} (h: ∀j (hj:j<l.length),p l[j]=true):l.all p=true:=by
 rw[List.all_eq_true]
 intro x hx
 obtain⟨j,hj,rfl⟩:=List.mem_iff_getElem.1 hx
 exact h j hj
structure Va where (base dots num den:Int)
def Va.cells (v:Va):List AV:=[.int .i64 v.base,.int .i64 v.dots,.int .i64 v.num,.int .i64 v.den]
def Va.av (v:Va):AV:= .agg [.int .i64 v.base,.int .i64 v.dots,.int .i64 v.num,.int .i64 v.den]
structure Pi where (step alter octave:Int)
def Pi.av (p:Pi):AV:= .agg [.int .i64 p.step,.int .i64 p.alter,.int .i64 p.octave]
structure Ra where (num den:Int)
def Ra.av (a:Ra):AV:= .agg [.int .i64 a.num,.int .i64 a.den]
structure Ev where
 kind:Int
 pitches:List Pi
 ties:List Bool
 value:Va
 marks:List Int
 word:ByteArray
def Ev.cells (e:Ev):List AV:=[.int .i64 e.kind,.sl 3 (e.pitches.map Pi.av) .none,.sl 1 (e.ties.map AV.bool) .none,.int .i64 e.value.base,.int .i64 e.value.dots,.int .i64 e.value.num,.int .i64 e.value.den,.sl 1 (e.marks.map (AV.int .i64)) .none,.str e.word]
def Ev.av (e:Ev):AV:= .agg [.int .i64 e.kind,.sl 3 (e.pitches.map Pi.av) .none,.sl 1 (e.ties.map AV.bool) .none,.int .i64 e.value.base,.int .i64 e.value.dots,.int .i64 e.value.num,.int .i64 e.value.den,.sl 1 (e.marks.map (AV.int .i64)) .none,.str e.word]
structure Vo where (l:List Ev)
def Vo.av (v:Vo):AV:= .agg [.sl 9 (v.l.map Ev.av) .none]
structure Te where (at_:Ra) (micros:Int) (ramp:Bool)
def Te.av (t:Te):AV:= .agg [.int .i64 t.at_.num,.int .i64 t.at_.den,.int .i64 t.micros,.bool t.ramp]
structure Dy where (at_:Ra) (level:Int) (hair:Bool)
def Dy.av (t:Dy):AV:= .agg [.int .i64 t.at_.num,.int .i64 t.at_.den,.int .i64 t.level,.bool t.hair]
structure Me where (num den:Int) (groups:List Int)
def Me.av (m:Me):AV:= .agg [.int .i64 m.num,.int .i64 m.den,.sl 1 (m.groups.map (AV.int .i64)) .none]
structure Ke where (fifths:Int) (minor:Bool)
def Ke.av (k:Ke):AV:= .agg [.int .i64 k.fifths,.bool k.minor]
structure Tu where (begin_:Bool) (times:Int) (endings:List Int) (sign coda tocoda fine:Bool) (jump:Int)
structure Ba where (meter:Me) (key:Ke) (turn:Tu) (tempos:List Te)
def Ba.av (b:Ba):AV:= .agg [.int .i64 b.meter.num,.int .i64 b.meter.den,.sl 1 (b.meter.groups.map (AV.int .i64)) .none,.int .i64 b.key.fifths,.bool b.key.minor,
 .bool b.turn.begin_,.int .i64 b.turn.times,.sl 1 (b.turn.endings.map (AV.int .i64)) .none,.bool b.turn.sign,.bool b.turn.coda,.bool b.turn.tocoda,.bool b.turn.fine,.int .i64 b.turn.jump,.sl 4 (b.tempos.map Te.av) .none]
def bU (c:List Vo):AV:= .sl 1 (c.map Vo.av) .none
def eP (c:List Dy):AV:= .sl 4 (c.map Dy.av) .none
structure Pa where (name:ByteArray) (clef channel:Int) (cells:List (List Vo)) (dyns:List (List Dy))
def Pa.av (p:Pa):AV:= .agg [.str p.name,.int .i64 p.clef,.int .i64 p.channel,.sl 1 (p.cells.map bU) .none,.sl 1 (p.dyns.map eP) .none]
structure Sc where (title:ByteArray) (bars:List Ba) (parts:List Pa)
def Sc.av (s:Sc):AV:= .agg [.str s.title,.sl 14 (s.bars.map Ba.av) .none,.sl 5 (s.parts.map Pa.av) .none]
theorem xR {F:Fence} {P:Program} {G:Nat->Option (List AV)} {W:World} {rng:Bool} {d:Nat} {gds:List (Option Tmp)} {K:Fr->St->Prop} {rest:List kQ} {dd:Option Tmp} {fr:Fr} {st:St} {a b:AV×List (Nat×Option aI)}
  (h1:lG P G (OZ F P G W rng d) gds K rest (fr.put dd a.1) (st.app a.2)) (h2:lG P G (OZ F P G W rng d) gds K rest (fr.put dd b.1) (st.app b.2)):nT P G (OZ F P G W rng d) gds K rest dd fr st (some true) (some (.branch [a,b])):=by
 have:(OZ F P G W rng d).both ([a,b].map fun x=>lG P G (OZ F P G W rng d) gds K rest (fr.put dd x.1) (st.app x.2)):=by
  have hx: ∀x∈([a,b].map fun x=>lG P G (OZ F P G W rng d) gds K rest (fr.put dd x.1) (st.app x.2)),x:=by
   intro x hx
   simp only[List.map_cons,List.map_nil,List.mem_cons,List.not_mem_nil,or_false] at hx
   rcases hx with rfl|rfl
   ·exact h1
   ·exact h2
  cases d with
  |zero=>cases rng<;>exact hx
  |succ d=>exact hx
 exact this
section
variable {P:Program} {G:Nat->Option (List AV)} {s:List AV} {g:Hp} {nx:Nat} {d:Option Tmp} {op:BinOp} {t e ty c:TypeId} {x y:Operand} {pos:String} {af:Array Edge} {gd:Option (Nat×Bool)} {k:Nat} {r:AV} {rows:List AV} {tk:Tk}
theorem kS:nS P G s g nx ⟨d,.binOp op t x y c,ty,pos,af,gd⟩=none:=rfl
theorem kT:Ak P G s nx ⟨d,.binOp op t x y c,ty,pos,af,gd⟩=Oe P op t (ev P G s t x) y:=rfl
def Qm (o:Option TypeDesc) (a:Option kM):Option kM:=match o with
 |some (.slice _)=>a
 |_=>none
theorem mD {a:Option kM}:Qm (some (.slice e)) a=a:=rfl
theorem Um:Oe P .eql t (.sl k (r::rows) tk) (.const (.slice none 0 0))=Qm (P.underlying t) (some (.val (.bool false) [])):=by
 delta Oe Qm;cases P.underlying t with
 |none=>rfl
 |some dd=>cases dd<;>rfl
theorem Ac:Oe P .eql t (.sl k [] tk) (.const (.slice none 0 0))=none:=by
 delta Oe;cases P.underlying t with
 |none=>rfl
 |some dd=>cases dd<;>rfl
theorem aAn {key o n:Nat}:Oe P .eql t (.msl key o n k) (.const (.slice none 0 0))=Qm (P.underlying t) (some (.val (.bool false) [])):=by
 delta Oe Qm;cases P.underlying t with
 |none=>rfl
 |some dd=>cases dd<;>rfl
theorem vF:Dv P G s g ⟨d,.binOp .eql t x (.const (.slice none 0 0)) c,ty,pos,af,gd⟩=Qm (P.underlying t) (if Gg (ev P G s t x)=true then some (.branch [(.bool true,[]),(.bool false,[])]) else none):=by
 delta Qm;simp only[Dv];cases P.underlying t with
 |none=>rfl
 |some dd=>cases dd<;>simp [Ry]
theorem oD:Gg (.sl k [] tk)=true:=rfl
end
theorem aG.nil {f:Nat->Option Nat} {h:List (Nat×aI)}:aG f h []:=fun k' b' hk=>by simp [hget] at hk
theorem aG.cons {f:Nat->Option Nat} {h t:List (Nat×aI)} {k:Nat} {cs cs':List AV} (K:Nat) (hk:hget h K=some (.cells cs)) (hf:f K=some k) (hc:cs.map (AV.ren f)=cs') (ht:aG f h t):aG f h ((k,.cells cs')::t):=by
 intro k' b' h'
 simp only[hget] at h'
 split at h'
 ·rename_i e
  simp only[Option.some.injEq] at h'
  subst e;subst h'
  exact⟨K,.cells cs,hf,hk,by simp only[aI.ren,hc]⟩
 ·exact ht k' b' h'
def gK (n:Nat) (ρ:List (Nat×Nat)):Nat->Option Nat:=fun k=>if k<n then some k else Eg ρ k
theorem dH.of_fit {n n1:Nat} {ρ:List (Nat×Nat)} {marks:List Nat} (h:Py n n1 ρ=true) (hs:(ρ.all fun p=>decide (n<=p.1))=true) (hm:(marks.all fun k=>decide (k<n))=true):dH n n1 (bI n ρ) (gK n ρ) marks:=by
 obtain⟨g0,g1,g2,g3⟩:=Pz h
 simp only[List.all_eq_true,decide_eq_true_eq] at hs hm
 refine⟨fun k k' hk=>?_,fun k hk=>?_,fun k' hk'=>?_,hm⟩
 ·rcases Yi hk with hp|⟨rfl,hlt⟩
  ·have:=(g1 _ hp).1
   simp only at this
   simp only[gK]
   rw[if_neg (by omega),aI3 g3 hp]
  ·simp only[gK,if_pos hlt]
 ·have: ∀ρ:List (Nat×Nat),(∀p∈ρ,n<=p.1)->bI n ρ k=some k:=by
   intro ρ
   induction ρ with
   |nil=>intro _;simp only[bI,if_pos hk]
   |cons p r ih=>
    intro hp
    have:=hp p (by simp)
    simp only[bI]
    rw[if_neg (by omega)]
    exact ih fun q hq=>hp q (by simp [hq])
  exact this ρ fun p hp=>hs p hp
 ·simp only[gK]
  rw[if_neg (by omega)]
  cases hi:Eg ρ k' with
  |none=>rfl
  |some a=>exact absurd (g1 _ (Qa hi)).2 hk'
theorem vI.of {v u:AV} {h1:List (Nat×List AV)} {m:Nat} {su:St} (ρ:List (Nat×Nat)) (h:Py 0 m ρ=true) (hr:aG (bI 0 ρ) su.h (hC h1)) (hu:u.ren (bI 0 ρ)=v):vI v h1 m u su:=by
 have ok:=dH.of_fit (marks:=[]) h (by simp) rfl
 exact⟨_,_,ok.fg,ok.top,hr,hu⟩
def iR (k s:Nat):Nat->AV
 |0=> .sl s [] .mut
 |n+1=> .msl k 0 (n+1) s
def jI (k:Nat) (cs:List AV):Nat->List (Nat×List AV)
 |0=>[]
 |_+1=>[(k,cs)]
theorem jR {α:Type} {f:Nat->Option Nat} {c:α->List AV} (h: ∀x,(c x).map (AV.ren f)=c x): ∀l:List α,(l.flatMap c).map (AV.ren f)=l.flatMap c
 |[]=>rfl
 |x::l=>by simp only[List.flatMap_cons,List.map_append,h x,jR h l]
theorem gB {f:Nat->Option Nat} (l:List Ev):(l.flatMap Ev.cells).map (AV.ren f)=l.flatMap Ev.cells:=jR (fun _=>rfl) l
theorem jX {α:Type} {c:α->List AV} {l:List α} {i:Nat} (h:i<l.length):(l.take (i+1)).flatMap c=(l.take i).flatMap c++c l[i]:=by
 rw[List.take_succ_eq_append_getElem h,List.flatMap_append];simp
theorem Nu {k s n nx:Nat} {cs:List AV} (hc: ∀f,cs.map (AV.ren f)=cs):vI (iR 0 s n) (jI 0 cs n) 1 (iR k s n) ⟨hC (jI k cs n),nx⟩:=by
 refine vI.of [(k,0)] rfl ?_ ?_
 ·cases n with
  |zero=>exact aG.nil
  |succ n=>exact aG.cons k (by simp [hC,jI,hget]) (by simp [bI]) (hc _) aG.nil
 ·cases n with
  |zero=>rfl
  |succ n=>simp [iR,AV.ren,bI]
theorem flat_length {α:Type} {c:α->List AV} {k:Nat} (h: ∀x,(c x).length=k): ∀l:List α,(l.flatMap c).length=l.length*k
 |[]=>by simp
 |x::l=>by simp only[List.flatMap_cons,List.length_append,h x,flat_length h l,List.length_cons,Nat.add_mul];omega
theorem aUc {hp:Hp} {d key n k:Nat} {cs cs':List AV} (hk:hp key=some (.cells cs)) (h0:0<k) (hc:cs.map (AV.now hp d)=cs') (hl:n*k<=cs.length) (hpu:cs'.all AV.pure=true):AV.now hp (d+1) (.msl key 0 n k)= .sl k (chunks (!(Nat.beq k 1)) k n cs') .none:=by
 simp only[AV.now,hk,List.drop_zero,hc]
 rw[if_pos ⟨h0,by omega,hpu⟩]
theorem aJf {hp:Hp} {d:Nat} {α:Type} {c:α->List AV} (h: ∀x,(c x).map (AV.now hp d)=c x): ∀l:List α,(l.flatMap c).map (AV.now hp d)=l.flatMap c
 |[]=>rfl
 |x::l=>by simp only[List.flatMap_cons,List.map_append,h x,aJf h l]
theorem evNow {hp:Hp} {d:Nat} (x:Ev):x.cells.map (AV.now hp d)=x.cells:=by cases d<;>rfl
theorem kZ {α:Type} {c:α->List AV} (h: ∀x,(c x).all AV.pure=true): ∀l:List α,(l.flatMap c).all AV.pure=true
 |[]=>rfl
 |x::l=>by simp only[List.flatMap_cons,List.all_append,h x,kZ h l,Bool.and_self]
theorem lI {α:Type} {c:α->List AV} {k:Nat} (h: ∀x,(c x).length=k): ∀l:List α,chunks true k l.length (l.flatMap c)=l.map fun x=> .agg (c x)
 |[]=>rfl
 |x::l=>by
  have hx:=h x
  simp only[List.length_cons,chunks,List.flatMap_cons,List.map_cons,if_true]
  rw[List.take_append_of_le_length (by omega),List.take_of_length_le (by omega),<-hx,List.drop_left,hx,lI h l]
theorem rO {a b c d:Nat}:AV.strip0 (.msl a b c d)= .msl a b c d:=rfl
theorem xF {a b c d:Nat}:AV.pure (.msl a b c d)=false:=rfl
theorem pJ {sty:Nat->Bool} {hp:Hp} {d key n k:Nat} {cs cs':List AV} (hk:hp key=some (.cells cs)) (h0:0<k) (hc:cs.map (AV.nowS sty hp d)=cs') (hl:n*k<=cs.length) (hpu:cs'.all AV.pure=true):AV.nowS sty hp (d+1) (.msl key 0 n k)= .sl k (chunks (!(Nat.beq k 1)||sty key) k n cs') .none:=by
 simp only[AV.nowS,hk,List.drop_zero,hc]
 rw[if_pos ⟨h0,by omega,hpu⟩]
theorem lV {sty:Nat->Bool} {hp:Hp} {d:Nat} {α:Type} {c:α->List AV} (h: ∀x,(c x).map (AV.nowS sty hp d)=c x): ∀l:List α,(l.flatMap c).map (AV.nowS sty hp d)=l.flatMap c
 |[]=>rfl
 |x::l=>by simp only[List.flatMap_cons,List.map_append,h x,lV h l]
theorem aV6 {sty:Nat->Bool} {hp:Hp} {d:Nat} (x:Ev):x.cells.map (AV.nowS sty hp d)=x.cells:=by cases d<;>rfl
theorem aJg {sty:Nat->Bool} {hp:Hp} {d key n:Nat} (l:List Ev) (hn:n=l.length) (hk:hp key=some (.cells (l.flatMap Ev.cells))):AV.nowS sty hp (d+1) (.msl key 0 n 9)= .sl 9 (l.map Ev.av) .none:=by
 subst hn
 refine(pJ hk (by decide) (lV aV6 l) (by rw[flat_length (k:=9) (fun _=>rfl)];omega) (kZ (fun _=>rfl) l)).trans ?_
 rw[show(!(Nat.beq 9 1)||sty key)=true from rfl,lI (c:=Ev.cells) (k:=9) (fun _=>rfl) l]
 rfl
theorem zI {α:Type} {c:α->AV}: ∀l:List α,chunks false 1 l.length (l.map c)=l.map c
 |[]=>rfl
 |x::l=>by
  simp only[List.length_cons,chunks,List.map_cons,Bool.false_eq_true,if_false,List.headD_cons,List.drop_succ_cons,List.drop_zero]
  rw[zI l]
theorem Jq {a b c d:Nat}:AV.strip (.msl a b c d)= .msl a b c d:=rfl
theorem Jr {a b c d:Nat}:AV.pureV (.msl a b c d)=false:=rfl
theorem fB {P:Program} {g:Hp} {nx:Nat} {t:TypeId} {a b c d e:Nat} {x:AV}:gI P g nx t (.mcap a b c d e) x=none:=by
 unfold gI
 cases nN P t with
 |none=>rfl
 |some el=>
  simp only
  cases sz P el<;>cases dZ P el<;>try rfl
  simp only
  rename_i n _
  cases cO g n x with
  |none=>rfl
  |some y=>simp
end Go.Proofs.Pv
namespace Go.Proofs.Pv
open Go
structure aH where
 kind:Int
 part:Int
 bar:Int
 voice:Int
 at_:Int
 count:Int
 events:List Ev
 bars:List Ba
 cells:List (List (List Vo))
 dyns:List (List (List Dy))
 steps:Int
 halves:Int
 text:ByteArray
def dM (c:List (List Vo)):AV:= .sl 1 (c.map bU) .none
def dV (c:List (List Dy)):AV:= .sl 1 (c.map eP) .none
def aH.cells13 (o:aH):List AV:=[.int .i64 o.kind,.int .i64 o.part,.int .i64 o.bar,.int .i64 o.voice,.int .i64 o.at_,.int .i64 o.count,.sl 9 (o.events.map Ev.av) .none,.sl 14 (o.bars.map Ba.av) .none,.sl 1 (o.cells.map dM) .none,.sl 1 (o.dyns.map dV) .none,.int .i64 o.steps,.int .i64 o.halves,.str o.text]
def aH.av (o:aH):AV:= .agg [.int .i64 o.kind,.int .i64 o.part,.int .i64 o.bar,.int .i64 o.voice,.int .i64 o.at_,.int .i64 o.count,.sl 9 (o.events.map Ev.av) .none,.sl 14 (o.bars.map Ba.av) .none,.sl 1 (o.cells.map dM) .none,.sl 1 (o.dyns.map dV) .none,.int .i64 o.steps,.int .i64 o.halves,.str o.text]
variable {P:Program} {G:Nat->Option (List AV)}
def jJ:List (Nat×Nat×Nat)->Nat->Option Nat
 |[],_=>none
 |(s,d,l)::r,k=>if s<=k/\k<s+l then some (d+(k - s)) else jJ r k
def aCb:List (Nat×Nat×Nat)->Nat->Option Nat
 |[],_=>none
 |(s,d,l)::r,k=>if d<=k/\k<d+l then some (s+(k - d)) else aCb r k
def dS (n:Nat) (l:List (Nat×Nat×Nat)) (k:Nat):Option Nat:=if k<n then some k else jJ l k
def xZ (n:Nat) (l:List (Nat×Nat×Nat)) (k:Nat):Option Nat:=if k<n then some k else aCb l k
def oH (n n1:Nat):List (Nat×Nat×Nat)->Prop
 |[]=>True
 |(_,d,l)::r=>(n<=d/\d+l<=n1/\ ∀x∈r,d+l<=x.2.1\/x.2.1+x.2.2<=d)/\oH n n1 r
theorem aGw: ∀ {l:List (Nat×Nat×Nat)} {k k':Nat},jJ l k=some k'-> ∃x∈l,x.2.1<=k'/\k'<x.2.1+x.2.2
 |[],_,_,h=>by cases h
 | (s,d,l)::r,k,k',h=>by
  simp only[jJ] at h
  split at h
  ·simp only[Option.some.injEq] at h
   exact⟨_,List.mem_cons_self,by show d<=k';omega,by show k'<d+l;omega⟩
  ·obtain⟨x,hx,h1⟩:=aGw h
   exact⟨x,List.mem_cons_of_mem _ hx,h1⟩
theorem aSk {n n1:Nat}: ∀ {l:List (Nat×Nat×Nat)} {k k':Nat},oH n n1 l->jJ l k=some k'->n<=k'/\aCb l k'=some k
 |[],_,_,_,h=>by cases h
 | (s,d,l)::r,k,k',ok,h=>by
  obtain⟨⟨o1,o2,o3⟩,o4⟩:=ok
  simp only[jJ] at h
  simp only[aCb]
  split at h
  ·simp only[Option.some.injEq] at h
   rw[if_pos (by omega)]
   exact⟨by omega,by congr 1;omega⟩
  ·obtain⟨x,hx,h1,h2⟩:=aGw h
   obtain⟨i1,i2⟩:=aSk o4 h
   have:=o3 x hx
   rw[if_neg (by omega)]
   exact⟨i1,i2⟩
theorem Yt {n n1:Nat}: ∀ {l:List (Nat×Nat×Nat)} {k:Nat},oH n n1 l-> ¬k<n1->aCb l k=none
 |[],_,_,_=>rfl
 |(s,d,l)::r,k,ok,h=>by
  obtain⟨⟨o1,o2,o3⟩,o4⟩:=ok
  simp only[aCb]
  rw[if_neg (by omega)]
  exact Yt o4 h
theorem aSl {n n1:Nat} {l:List (Nat×Nat×Nat)} (ok:oH n n1 l) {k k':Nat} (h:dS n l k=some k'):xZ n l k'=some k:=by
 unfold dS at h
 unfold xZ
 split at h
 ·simp only[Option.some.injEq] at h
  subst h
  rename_i h'
  rw[if_pos h']
 ·obtain⟨h1,h2⟩:=aSk ok h
  rw[if_neg (by omega)];exact h2
theorem dH.seg {n n1:Nat} {l:List (Nat×Nat×Nat)} {marks:List Nat} (ok:oH n n1 l) (hn:n<=n1) (hm:(marks.all fun k=>decide (k<n))=true):dH n n1 (dS n l) (xZ n l) marks:=by
 refine⟨fun k k' h=>aSl ok h,fun k hk=>if_pos hk,fun k' hk'=>?_,fun k hk=>?_⟩
 ·unfold xZ
  rw[if_neg (by omega)];exact Yt ok hk'
 ·simpa using List.all_eq_true.1 hm k hk
theorem vI.seg {v u:AV} {h1:List (Nat×List AV)} {m:Nat} {su:St} (l:List (Nat×Nat×Nat)) (ok:oH 0 m l) (hr:aG (dS 0 l) su.h (hC h1)) (hu:u.ren (dS 0 l)=v):vI v h1 m u su:=
 ⟨dS 0 l,xZ 0 l,fun _ _ h=>aSl ok h,fun k' hk'=>by unfold xZ;rw[if_neg (Nat.not_lt_zero _)];exact Yt ok hk',hr,hu⟩
def dW:Nat->List (List AV)->List (Nat×List AV)
 |_,[]=>[]
 |K,x::l=>(K,x)::dW (K+1) l
theorem Ir: ∀(K:Nat) (l l':List (List AV)),dW K (l++l')=dW K l++dW (K+l.length) l'
 |K,[],l'=>rfl
 |K,x::l,l'=>by
  simp only[List.cons_append,dW,Ir (K+1) l l',List.length_cons]
  rw[show K+1+l.length=K+(l.length+1) by omega]
theorem oC {n:Nat}: ∀(K:Nat) (l:List (List AV)),hup n (dW K l)=dW (K+n) (l.map (List.map (AV.ren (up n))))
 |K,[]=>rfl
 |K,x::l=>by
  have:=oC (n:=n) (K+1) l
  simp only[hup] at this
  simp only[dW,hup,List.map_cons,this,show K+n+1=K+1+n by omega]
theorem Iu: ∀(K:Nat) (l:List (List AV)) (k:Nat),hget (hC (dW K l)) k=if K<=k then(l[k - K]?).map aI.cells else none
 |K,[],k=>by simp [dW,hC,hget]
 | K,x::l,k=>by
  have ih:=Iu (K+1) l k
  simp only[hC] at ih
  simp only[dW,hC,List.map_cons,hget,ih]
  by_cases h:k=K
  ·subst h;simp
  ·rw[if_neg h]
   by_cases h2:K<=k
   ·rw[if_pos h2,if_pos (by omega),show k - K=(k - (K+1))+1 by omega];simp
   ·rw[if_neg h2,if_neg (by omega)]
theorem Yu {K:Nat} {l:List (List AV)} {k:Nat} (h:k<K):hget (hC (dW K l)) k=none:=by rw[Iu,if_neg (by omega)]
theorem vJ {K:Nat} {l:List (List AV)} {k:Nat} (h:K+l.length<=k):hget (hC (dW K l)) k=none:=by
 rw[Iu]
 split
 ·rw[List.getElem?_eq_none (by omega)];rfl
 ·rfl
theorem iO {K:Nat} {l:List (List AV)} {j:Nat} (h:j<l.length):hget (hC (dW K l)) (K+j)=some (.cells l[j]):=by
 rw[Iu,if_pos (by omega),show K+j - K=j by omega,List.getElem?_eq_getElem h];rfl
theorem uD {a b:List (Nat×List AV)}:hC (a++b)=hC a++hC b:=List.map_append
theorem Gs {n:Nat} {a b:List (Nat×List AV)}:hup n (a++b)=hup n a++hup n b:=List.map_append
theorem aG.app {f:Nat->Option Nat} {h a b:List (Nat×aI)} (h1:aG f h a) (h2:aG f h b):aG f h (a++b):=by
 intro k' b' hk
 rw[bV] at hk
 split at hk
 ·rename_i x hx
  simp only[Option.some.injEq] at hk;subst hk
  exact h1 _ _ hx
 ·exact h2 _ _ hk
theorem aG.fam {f:Nat->Option Nat} {h:List (Nat×aI)} {K K':Nat} {l l':List (List AV)} (hl:l.length=l'.length) (hj: ∀j (h1:j<l.length) (h2:j<l'.length),f (K+j)=some (K'+j)/\hget h (K+j)=some (.cells l[j])/\l[j].map (AV.ren f)=l'[j]):aG f h (hC (dW K' l')):=by
 intro k' b' hk
 rw[Iu] at hk
 split at hk
 ·rename_i hle
  have hlt:k' - K'<l'.length:=by
   apply Classical.byContradiction
   intro hn
   rw[List.getElem?_eq_none (by omega)] at hk;cases hk
  rw[List.getElem?_eq_getElem hlt] at hk
  simp only[Option.map_some,Option.some.injEq] at hk
  obtain⟨g1,g2,g3⟩:=hj (k' - K') (by omega) hlt
  refine⟨K+(k' - K'),_,by rw[g1];congr 1;omega,g2,?_⟩
  simp only[aI.ren,g3,hk]
 ·cases hk
def iU (Z:List (Nat×aI)):DH:=Z.map fun x=>(x.1,some x.2)
theorem fV {Z:List (Nat×aI)}:(Z.map fun x=>(x.1,some x.2))=iU Z:=rfl
theorem jF (Z:List (Nat×aI)) (k:Nat):bY (iU Z) k=hget Z k:=Pn Z k
theorem kG: ∀(Z:List (Nat×aI)) (k:Nat),fO (iU Z) k=(hget Z k).isSome
 |[],k=>rfl
 |(q,b)::r,k=>by
  have ih:=kG r k
  simp only[iU,List.map_cons,fO,hget]
  split
  ·rfl
  ·exact ih
theorem eF: ∀Z:List (Nat×aI),jA (iU Z)=Z
 |[]=>rfl
 |(q,b)::r=>by
  have ih:=eF r
  simp only[iU,List.map_cons,jA] at ih ⊢
  rw[ih]
theorem wB (Z:List (Nat×aI)) (r:DH):jA (iU Z++r)=Z++jA r:=by
 induction Z with
 |nil=>rfl
 |cons x Z ih=>
  simp only[iU,List.map_cons,List.cons_append,jA] at ih ⊢
  rw[ih]
structure iJ (n m:Nat) (Z:List (Nat×aI)):Prop where
 lo: ∀k,k<n->hget Z k=none
 hi: ∀k,m<=k->hget Z k=none
theorem iJ.dlo {n m:Nat} {Z:List (Nat×aI)} (t:iJ n m Z): ∀k,k<n->fO (iU Z) k=false:=fun k h=>by rw[kG,t.lo k h];rfl
theorem iJ.dhi {n m:Nat} {Z:List (Nat×aI)} (t:iJ n m Z): ∀k,m<=k->fO (iU Z) k=false:=fun k h=>by rw[kG,t.hi k h];rfl
theorem iJ.fam {K m:Nat} {l:List (List AV)} (h:K+l.length<=m):iJ K m (hC (dW K l)):=⟨fun k hk=>Yu hk,fun k hk=>vJ (by omega)⟩
theorem aG.famM {f:Nat->Option Nat} {h:List (Nat×aI)} {K K':Nat} {l l':List (List AV)} (hm:l.map (List.map (AV.ren f))=l') (hf: ∀j,j<l.length->f (K+j)=some (K'+j)) (hg: ∀j (h1:j<l.length),hget h (K+j)=some (.cells l[j])):aG f h (hC (dW K' l')):=by
 subst hm
 exact aG.fam (K:=K) (l:=l) (by simp) fun j h1 h2=>⟨hf j h1,hg j h1,by simp⟩
theorem aP.live {F:Fence} {W:World} {f:FuncId} {args:List AV} {K:AV->St->Prop} {st:St} (h:(∀k b,hget st.h k=some b->k<st.nx)->aP F P G W f args K st):aP F P G W f args K st:=by
 intro M w vs inv hargs
 refine h (fun k b hk=>?_) M w vs inv hargs
 apply Classical.byContradiction
 intro hn
 obtain⟨b',ob,g1,_⟩:=inv.live k b hk
 obtain⟨f1,f2⟩:=inv.fresh k hn
 unfold Mem.blockOf at g1
 rw[f1,f2] at g1
 split at g1<;>cases g1
theorem aP.less {F:Fence} {W:World} {f:FuncId} {args:List AV} {K:AV->St->Prop} {st:St} (h:aP F P G W f args (fun v st=> ∃st',Less st st'/\K v st') st):aP F P G W f args K st:=by
 intro M w vs inv hargs
 obtain⟨h1,h2⟩:=h M w vs inv hargs
 refine⟨h1,fun n=>(h2 n).mono ?_⟩
 rintro e w' ⟨M',v,av,st',k1,k2,k3,k4,st2,⟨e1,e2⟩,k5⟩
 refine⟨M',v,av,st2,k1,k2,?_,k4,k5⟩
 rw[<-e1]
 exact k3.trim e2
theorem Gt {F:Fence} (hF:Free F) (hro:F.round=none) {W:World} {rng:Bool} {d:Nat} {f:FuncId} {args args':List AV} {v:AV} {c1 t1:List (Nat×List AV)} {m:Nat} {h:List (Nat×aI)} {nx:Nat} {K:AV->St->Prop} (own:Own P G f args' v (c1++t1) m) (he:args.map AV.plain=args')
  (hK:K (v.ren (up nx)) ⟨hC (hup nx c1)++(h++hC (hup nx t1)),nx+m⟩):(OZ F P G W rng d).call f args K ⟨h,nx⟩:=by
 refine nH (aP.live fun hl=>aP.less (own.call hF hro he (st:=⟨h,nx⟩) ⟨⟨hC (hup nx c1)++(h++hC (hup nx t1)),nx+m⟩,⟨rfl,fun k b' hk=>⟨b',?_,.inl rfl⟩⟩,hK⟩))
 have e:hget (hC (hup nx (c1++t1))++h) k=match(match hget (hC (hup nx c1)) k with|some x=>some x|none=>hget (hC (hup nx t1)) k) with|some x=>some x|none=>hget h k:=by rw[Gs,uD,bV,bV];rfl
 have e2:hget (hC (hup nx c1)++(h++hC (hup nx t1))) k=match hget (hC (hup nx c1)) k with|some x=>some x|none=>match hget h k with|some x=>some x|none=>hget (hC (hup nx t1)) k:=by rw[bV,bV];rfl
 have hk:hget (hC (hup nx c1)++(h++hC (hup nx t1))) k=some b':=hk
 show hget (hC (hup nx (c1++t1))++h) k=some b'
 rw[e2] at hk
 rw[e]
 cases h0:hget (hC (hup nx c1)) k with
 |some x=>
  simp only[h0] at hk ⊢
  exact hk
 | none=>
  simp only[h0] at hk ⊢
  cases h1:hget h k with
  | some y=>
   simp only[h1] at hk
   have:k<nx:=hl k y h1
   cases h2:hget (hC (hup nx t1)) k with
   |none=>simp only;exact hk
   |some z=>
    have:=(vH h2).1
    omega
  |none=>
   simp only[h1] at hk
   rw[hk]
def FrzK (R:AV->Prop):AV->St->Prop:=fun u su=> ∃(vs0:List AV) (sty:Nat->Bool) (d:Nat),u= .tup vs0/\R (.tup (vs0.map (AV.nowS sty su.hp d)))
theorem zM {R:AV->Prop} {u:AV} {su:St}:FrzK R u su= ∃(vs0:List AV) (sty:Nat->Bool) (d:Nat),u= .tup vs0/\R (.tup (vs0.map (AV.nowS sty su.hp d))):=rfl
open Classical in
theorem PC.of_callT {f:FuncId} {args:List AV} {R:AV->Prop} (own: ∀F,Free F->F.round=none-> ∀W,aP F P G W f args (FrzK R) ⟨[],0⟩):PC P G f args R:=by
 intro F hF hro W M w vs hL hT inv hargs
 have inv0:Inv G M (fun k=>k< (⟨[],0⟩:St).nx) (⟨[],0⟩:St).hp W w:=
  ⟨inv.imm,inv.far,inv.os,inv.tape,inv.out,fun key _=>by rw[hL,hT];exact⟨rfl,rfl⟩,fun key blk h=>by simp [St.hp,hget] at h,fun k1 k2 b1 b2 b h=>by simp [St.hp,hget] at h,inv.glob,fun _ _ _=>trivial⟩
 obtain⟨g1,g2⟩:=own F hF hro W M w vs inv0 (bP.mono (fun a v hv=>hv.of_pure) hargs)
 refine⟨g1,fun n=>(g2 n).mono ?_⟩
 rintro e w' ⟨M',u,av,su,rfl,hle,inv',hrel,vs0,sty,d,rfl,hR⟩
 let live:Nat->Prop:=fun b=> ∃key cs,su.hp key=some (.cells cs)/\M'.L key=some b
 let J:jZ:=fun b o=>if live b then w'.cell? ⟨b,o,none⟩ else M'.I b o
 have hlv: ∀b,live b->M'.F b=none/\ ∀o,M'.I b o=none:=by
  rintro b ⟨key,cs,k1,k2⟩
  obtain⟨q,ob,q1,q2,q3,q4,q5⟩:=inv'.live key (.cells cs) k1
  have:q=b:=by simpa [Mem.blockOf,aI.isTok,k2] using q1.symm
  subst this
  exact⟨q4,q5 rfl⟩
 have hJ0: ∀b o v,M'.I b o=some v->J b o=some v:=by
  intro b o v hv
  by_cases hb:live b
  ·rw[(hlv b hb).2 o] at hv;cases hv
  ·show(if live b then _ else M'.I b o)=_
   rw[if_neg hb];exact hv
 have hrel':aQ J kC noT (.tup (vs0.map (AV.nowS sty su.hp d))) u:=by
  cases hrel with
  | tup hs hr0=>
   refine .tup (by simpa using hs) (fun i h1' h2'=>?_)
   have hx:=hr0 i (by simpa using h1') (by simpa using h2')
   have:=Dt (sty:=sty) inv' hJ0 (fun key cs b k1 k2 o=>by
    show(if live b then _ else M'.I b o)=_
    rw[if_pos ⟨key,cs,k1,k2⟩]) d hx
   simp only[List.getElem_map];exact this
 refine⟨{I:=J,L:=M'.L,T:=M'.T,F:=M'.F},u,_,rfl,⟨fun b o v h=>hJ0 b o v (hle.I b o v h),hle.L,hle.T,hle.F,fun b o hf=>?_⟩,?_,hrel',hR⟩
 ·have hb: ¬live b:=fun hb=>by
   have:=(hlv b hb).1
   cases hF':M.F b with
   |none=>exact hf hF'
   |some ob=>rw[hle.F b ob hF'] at this;cases this
  show(if live b then _ else M'.I b o)=_
  rw[if_neg hb];exact hle.IF b o hf
 ·refine⟨fun b o v h=>?_,inv'.far,inv'.os,inv'.tape,inv'.out,fun key hk=>absurd trivial hk,fun key blk h=>by simp at h,fun k1 k2 b1 b2 b h=>by simp at h,fun g cells hg=>?_,fun _ _ _=>trivial⟩
  ·by_cases hb:live b
   ·have h':(if live b then w'.cell? ⟨b,o,none⟩ else M'.I b o)=some v:=h
    rw[if_pos hb] at h';exact h'
   ·have h':(if live b then w'.cell? ⟨b,o,none⟩ else M'.I b o)=some v:=h
    rw[if_neg hb] at h';exact inv'.imm b o v h'
  ·exact aQ.mono0 hJ0 (inv'.glob g cells hg) (fun _ _ h=>h) (fun _ _ h=>h)
theorem PC.introT (d:Nat) (hmix:P.follows .mixedOrders=true) (hname: ∀(f:Nat) (fn:Func),P.funcs[f]?=some fn->fn.name≠ "runtime.NumGoroutine") {f:FuncId} {fn:Func} {c:Code} {args:List AV} {R:AV->Prop} (hf:P.funcs[f]?=some fn) (hb:fn.body=some c)
  (h: ∀(F:Fence),Free F->F.round=none-> ∀(W:World),fG P G (OZ F P G W true d) c (mP P (OZ F P G W true d) fn.results.toList (fun v st=>(v,st)) (FrzK R)) (uG fn.ntmps args) ⟨[],0⟩):PC P G f args R:=by
 refine PC.of_callT fun F hF hro W=>?_
 have hpl:F.plain=F:=by cases F;simp only[Fence.plain] at hro ⊢;simp_all
 refine wR (ok:=id) hF hro hname (Jg hmix W d true F hF hpl (fun _=>hro)) (fin:=fun _ _ v st=>(v,st)) (fun _ _ _ _ _ _ _ _ inv hv=>⟨_,Mem.le_refl _,inv,hv⟩) ?_
 unfold Bq
 rw[hf]
 simp only[hb]
 exact h F hF hro W
def Sub (st st':St):Prop:=st.nx<=st'.nx/\ ∀k b,st'.hp k=some b->st.hp k=some b
theorem Inv.sub {W w:World} {M:Mem} {st st':St} (h:Sub st st') (inv:Inv G M (· <st.nx) st.hp W w):Inv G M (· <st'.nx) st'.hp W w:=(inv.more fun k hk=>by have:=h.1;have hk:k<st.nx:=hk;show k<st'.nx;omega).less h.2
theorem aP.post {F:Fence} {W:World} {f:FuncId} {args:List AV} {K:AV->St->Prop} {st:St} (h:aP F P G W f args (fun v st=> ∃st',Sub st st'/\K v st') st):aP F P G W f args K st:=by
 intro M w vs inv hargs
 obtain⟨h1,h2⟩:=h M w vs inv hargs
 refine⟨h1,fun n=>(h2 n).mono ?_⟩
 rintro e w' ⟨M',v,av,st',k1,k2,k3,k4,st2,hs,k5⟩
 exact⟨M',v,av,st2,k1,k2,k3.sub hs,k4,k5⟩
theorem aP.pre {F:Fence} {W:World} {f:FuncId} {args:List AV} {K:AV->St->Prop} {st st':St} (hs:Sub st st') (h:aP F P G W f args K st'):aP F P G W f args K st:=
 fun M w vs inv hargs=>h M w vs (inv.sub hs) hargs
theorem Own.more {f:FuncId} {args:List AV} {v:AV} {h1:List (Nat×List AV)} {m m':Nat} (own:Own P G f args v h1 m) (h:m<=m'):Own P G f args v h1 m':=by
 intro F hF hro W
 refine aP.post (?_:aP F P G W f args _ ⟨[],0⟩)
 intro M w vs inv hargs
 obtain⟨g1,g2⟩:=own F hF hro W M w vs inv hargs
 refine⟨g1,fun n=>(g2 n).mono ?_⟩
 rintro e w' ⟨M',u,av,st',k1,k2,k3,k4,rfl,rfl⟩
 exact⟨M',u,_,_,k1,k2,k3,k4,⟨hC h1,m'⟩,⟨h,fun _ _ h=>h⟩,rfl,rfl⟩
def LE.ren (φ:Nat->Nat) (e:LE):LE:=⟨e.p,e.ak.map φ,e.wk.map φ,e.call,e.all,e.al,e.top⟩
theorem Yv {φ:Nat->Nat} {a b:List Nat} (h:Ik (a.map φ) (b.map φ)=true):Ik a b=true:=
 Il.2 fun x hx hb=>Il.1 h (φ x) (List.mem_map_of_mem hx) (List.mem_map_of_mem hb)
theorem aA4 {φ:Nat->Nat} (hφ: ∀k,k<=φ k) {e e':LE} (h:beside (e.ren φ) (e'.ren φ)=true):beside e e'=true:=by
 simp only[beside,LE.ren,Bool.or_eq_true,Bool.and_eq_true,List.all_map,List.all_eq_true,Function.comp,Nat.blt_eq] at h ⊢
 rcases h with h|⟨⟨h1,h2⟩,h3⟩
 ·exact .inl h
 ·exact .inr ⟨⟨h1,fun x hx=>Nat.lt_of_le_of_lt (hφ x) (h2 x hx)⟩,fun x hx=>Nat.lt_of_le_of_lt (hφ x) (h3 x hx)⟩
theorem aLv {φ:Nat->Nat} (hφ: ∀k,k<=φ k) {e e':LE} (h:vY (e.ren φ) (e'.ren φ)=true):vY e e'=true:=by
 simp only[vY,Bool.and_eq_true] at h ⊢
 obtain⟨⟨⟨⟨⟨h1,h2⟩,h3⟩,h4⟩,h5⟩,h6⟩:=h
 exact⟨⟨⟨⟨⟨Yv h1,Yv h2⟩,Yv h3⟩,h4⟩,aA4 hφ h5⟩,aA4 hφ h6⟩
theorem nP {anc:List (List Nat)} (φ:Nat->Nat) (hφ: ∀k,k<=φ k): ∀ {log:List LE},mY anc (log.map (LE.ren φ))=true->mY anc log=true
 |[],_=>rfl
 |e::log,h=>by
  simp only[List.map_cons,mY,Bool.and_eq_true] at h ⊢
  refine⟨?_,nP φ hφ h.2⟩
  have h1:=h.1
  simp only[chk,List.all_map,List.all_eq_true,Function.comp,Bool.or_eq_true] at h1 ⊢
  intro x hx
  rcases h1 x hx with h2|h2
  ·exact .inl h2
  ·exact .inr (aLv hφ h2)
end Go.Proofs.Pv
