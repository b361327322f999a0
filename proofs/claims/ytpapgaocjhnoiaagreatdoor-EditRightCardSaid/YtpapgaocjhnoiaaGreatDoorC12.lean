/-
  Layer 9: edit.Apply at an edit of events, told plainly.
  Layer 9: edit.Apply, told plainly, at all kinds of edits.
  Layer 9: edit.Apply answers what gY says.
  What a small typed score, and a small typed edit, have.
  A typed edit: its place, its bars and its dynamics are bounded, too.
  Conditions: none but those that each statement names.
-/
import Derived.Test.YtpapgaocjhnoiaaGreatDoorC09k
import Derived.Test.YtpapgaocjhnoiaaGreatDoorC11u
import Derived.Test.YtpapgaocjhnoiaaGreatDoorC11z
import Derived.Test.YtpapgaocjhnoiaaGreatDoorC09s
set_option linter.unusedVariables false
set_option linter.unusedSimpArgs false
namespace Go.Proofs.Pv
open Go Go.Proofs
set_option maxRecDepth 100000
def aI2 (o:aK) (j b v a n:Nat) (l:List Ev):aK:=⟨1,j,b,v,a,o.events.length,(l.drop a).take n,[],[],[],0,0,⟨#[]⟩⟩
structure Sc.fine (s:Sc):Prop where
 sm:s.small
 sh: ∀b∈s.bars,b.short
structure aK.fine (o:aK):Prop where
 ev: ∀e∈o.events,e.small
 evl:o.events.length≤400000
 ba: ∀b∈o.bars,b.short∧b.ok
 bal:o.bars.length≤400000
 ce: ∀l∈o.cells,l.length≤400000∧ ∀c∈l,c.length≤1000000∧ ∀v∈c,v.small
 cel:o.cells.length≤1000000
 dy: ∀l∈o.dyns,l.length≤400000∧ ∀d∈l,d.length≤1000000∧ ∀t∈d,t.at_.fits
 dyl:o.dyns.length≤1000000
 at_:I64 o.at_
 fr:I64 o.bar
theorem Ev.small.sh {e:Ev} (h:e.small):e.short:=⟨h.1,h.2.1,h.2.2⟩
theorem Vo.small.sh {v:Vo} (h:v.small):v.short:=⟨h.1,fun e he=>(h.2 e he).sh⟩
theorem cnt_le {Φ:CF} (hz: ∀c,Φ.sz c≤1+c.length): ∀l:List (List Vo),(∀c∈l,c.length≤4)→cnt Φ l≤l.length*5
 |[],_=>by simp [cnt]
 |c::l,h=>by
  have h1:=hz c
  have h2:=h c (by simp)
  have:=cnt_le hz l fun x hx=>h x (by simp [hx])
  simp only[cnt,List.length_cons];omega
theorem aAo {Φ:nJ} (hz: ∀c,Φ.sz c≤1+c.length): ∀ps:List Pa,(∀p∈ps,p.cells.length≤100∧ ∀c∈p.cells,c.length≤4)→fE Φ ps≤ps.length*500
 |[],_=>by simp [fE]
 |p::ps,h=>by
  obtain⟨h1,h2⟩:=h p (by simp)
  have h3:=cnt_le (Φ:=Φ.toCF) hz p.cells h2
  have:=aAo hz ps fun x hx=>h x (by simp [hx])
  simp only[fE,List.length_cons];omega
theorem tC {Φ:nJ} (hz: ∀c,Φ.sz c≤1+c.length) {s:Sc} (hr:Right s) (hs:s.fine):s.goodU Φ:=by
 have hg:=aA9 hr hs.sm fun b hb=>(hs.sh b hb).e
 have hb0:=hr.b0
 have hb1:=hr.b1
 have hp1:=hr.p1
 have hcl: ∀p∈s.parts,p.cells.length≤100∧ ∀c∈p.cells,c.length≤4:=fun p hp=>⟨by have:=(hr.len p hp).1;omega,fun c hc=>(hr.cell p hp c hc).2⟩
 refine⟨hr.p0,by omega,fun p hp=>⟨hg.pa p hp,by have:=(hr.len p hp).2;omega,fun c hc=>by have:=(hr.cell p hp c hc).2;omega,?_⟩,?_,hr.b0,by omega,hs.sh⟩
 ·obtain⟨h1,h2⟩:=hcl p hp
  have:=cnt_le (Φ:=Φ.toCF) hz p.cells h2
  omega
 ·have:=aAo (Φ:=Φ) hz s.parts hcl
  omega
theorem sz_E: ∀c,dG.sz c≤1+c.length:=fun c=>by show 1+c.length≤1+c.length;omega
theorem sz_V: ∀c,fJ.sz c≤1+c.length:=fun c=>by show 1≤1+c.length;omega
theorem aAp: ∀c,oK.sz c≤1+c.length:=fun c=>by show 0≤1+c.length;omega
theorem aRl {s:Sc} (hr:Right s):rW s.parts:=by
 have hb1:=hr.b1
 have hp1:=hr.p1
 refine⟨by omega,?_⟩
 have:=aAo (Φ:=dG) sz_E s.parts fun p hp=>⟨by have:=(hr.len p hp).1;omega,fun c hc=>(hr.cell p hp c hc).2⟩
 omega
set_option maxHeartbeats 4000000 in
theorem aLg (s:Sc) (o:aK) (hk:o.kind=1) (hs:s.small) (hg:s.good) (hchk:s.checkR.2=0) (j0 b0 v0 a n:Nat) (hj:j0<s.parts.length) (hbb:b0<s.bars.length) (hb0:b0< (s.parts.getD j0 pa0).cells.length) (hv0:v0< ((s.parts.getD j0 pa0).cells.getD b0 []).length)
  (hp:o.part=(j0:Nat)) (hq:o.bar=(b0:Nat)) (hv:o.voice=(v0:Nat)) (ha:o.at_=(a:Nat)) (hn:o.count=(n:Nat))
  (vo:Vo) (hvo:((s.parts.getD j0 pa0).cells.getD b0 []).getD v0 ⟨[]⟩=vo) (han:a+n≤vo.l.length) (hll:vo.l.length≤1000000) (hol:o.events.length≤1000000) (hos: ∀e∈o.events,e.short) (hsum:vo.l.length+o.events.length+1≤1000000)
  (hts:(oL s j0 b0 v0 (jE vo.l a n o.events)).small):PC Tryz.prog gl 7 [s.av,o.av] (fun v=>v=uB (oL s j0 b0 v0 (jE vo.l a n o.events)) (aI2 o j0 b0 v0 a n vo.l).av):=by
 by_cases htc:(oL s j0 b0 v0 (jE vo.l a n o.events)).checkR.2=0
 ·rw[uB,if_pos htc]
  refine PC.of_ownT (sty:=fun k=>k==2) (aMe s o hk hs hg hchk j0 b0 v0 a n hj hbb hb0 hv0 hp hq hv ha hn vo hvo han hll hol hos hsum hts htc) 5 ?_
  have e1:=Sr (s:=s) (b0:=b0) (v0:=v0) (l:=jE vo.l a n o.events) hj
  have e2:=Su (v0:=v0) (l:=jE vo.l a n o.events) hb0
  have h1:=aJj (sty:=fun k=>k==2) (hp:=hget (hC [(0,aS (kN 1 s.parts j0) s.parts.length),(1,aS (iZ 2 (s.parts.getD j0 pa0).cells b0) (s.parts.getD j0 pa0).cells.length),(2,aS (jI 3 (((s.parts.getD j0 pa0).cells.getD b0 []).set v0 ⟨jE vo.l a n o.events⟩) v0) ((s.parts.getD j0 pa0).cells.getD b0 []).length),(3,(jE vo.l a n o.events).flatMap Ev.cells)])) (d:=0) (kp:=0) (qc:=1) (qv:=2) (qe:=3)
   (oL s j0 b0 v0 (jE vo.l a n o.events)) j0 b0 v0 (by rw[zS];exact hj) (by rw[e1,Gn];exact hb0) (by rw[e1,e2,List.length_set];exact hv0) rfl rfl
   (by rw[zS,aFs hj];simp [hC,hget]) (by rw[e1,Gn,aCv hb0];simp [hC,hget])
   (by rw[e1,e2,List.length_set];simp [hC,hget]) (by rw[e1,e2,uQ hv0];simp [hC,hget])
  rw[zS] at h1
  simp only[List.map_cons,List.map_nil]
  have h1':AV.nowS (fun k=>k==2) (hget (hC [(0,aS (kN 1 s.parts j0) s.parts.length),(1,aS (iZ 2 (s.parts.getD j0 pa0).cells b0) (s.parts.getD j0 pa0).cells.length),(2,aS (jI 3 (((s.parts.getD j0 pa0).cells.getD b0 []).set v0 ⟨jE vo.l a n o.events⟩) v0) ((s.parts.getD j0 pa0).cells.getD b0 []).length),(3,(jE vo.l a n o.events).flatMap Ev.cells)])) 5 (.agg [.str s.title,.sl 14 (s.bars.map Ba.av) .none,.msl 0 0 s.parts.length 5])=(oL s j0 b0 v0 (jE vo.l a n o.events)).av:=h1
  rw[h1']
  rfl
 ·rw[uB,if_neg htc]
  exact aG4 s o hk hs hg hchk j0 b0 v0 a n hj hbb hb0 hv0 hp hq hv ha hn vo hvo han hll hol hos hsum hts htc
end Go.Proofs.Pv
namespace Go.Proofs.Pv
open Go Go.Proofs
set_option maxRecDepth 100000
set_option maxHeartbeats 16000000 in
theorem aLr (s:Sc) (o:aK) (hs:s.small) (hg:s.goodU oK) (hchk:s.checkR.2=0) (hk: ∀n:Nat,1≤n→n≤9→o.kind≠(n:Int)):PC Tryz.prog gl 7 [s.av,o.av] (fun v=>v=errR 90):=by
 have hown:=aIs s hg
 have hT:=rM s hg
 have hhi:=hg.hi
 rw[scC] at hown
 obtain⟨Z,hZ⟩: ∃Z,lD oK s=Z:=⟨_,rfl⟩
 have hZ':hC (hup 20 (Zo oK s))=Z:=hZ
 rw[hZ] at hT
 have z1:=gG (hT.lo 15 (by omega))
 have z2:=gG (hT.lo 18 (by omega))
 have z3:=gG (hT.hi 2000021 (by omega))
 have k1:(o.kind==(1:Int))=false:=by have:=hk 1 (by omega) (by omega);simpa using this
 have k2:(o.kind==(2:Int))=false:=by have:=hk 2 (by omega) (by omega);simpa using this
 have k3:(o.kind==(3:Int))=false:=by have:=hk 3 (by omega) (by omega);simpa using this
 have k4:(o.kind==(4:Int))=false:=by have:=hk 4 (by omega) (by omega);simpa using this
 have k5:(o.kind==(5:Int))=false:=by have:=hk 5 (by omega) (by omega);simpa using this
 have k6:(o.kind==(6:Int))=false:=by have:=hk 6 (by omega) (by omega);simpa using this
 have k7:(o.kind==(7:Int))=false:=by have:=hk 7 (by omega) (by omega);simpa using this
 have k8:(o.kind==(8:Int))=false:=by have:=hk 8 (by omega) (by omega);simpa using this
 have k9:(o.kind==(9:Int))=false:=by have:=hk 9 (by omega) (by omega);simpa using this
 clear hk
 (refine PC.introT 2 mix names (fn:=Tryz.f7) Tryz.func7 rfl fun F hF hro W=>?_;simp -implicitDefEqProofs only[Tryz.ntmps7,Tryz.results7,aI,Nat.reduceAdd,Nat.reduceSub])
 repeat' (first
  |simp -implicitDefEqProofs only[↓reduceIte,aB,aC,facts,Nat.reduceAdd,Nat.reduceEqDiff,Nat.reduceLeDiff,Int.reduceBEq,Int.reduceBNe,mM,vZ,wB,sQ,qL,xY,AV.cells,AV.one,aK.av,Sc.av,mO,qF,hchk,fU,dY,Xz,Xf,nD,eU,aJ,bQ,aZ,bD,bG, *]
  |((with_reducible refine dH 16 ?_);refine kD hF hro hown (rfl) ?_)
  |with_reducible refine kG ?_
  |((with_reducible refine aQ ?_);refine bU (by decide+kernel) ?_)
  |((with_reducible refine dN ?_ ?_);· decide+kernel)
  |((with_reducible refine aT 8 ?_);refine PC.useZ hF (jS s hs) (rfl) fun v hv=>?_;subst hv))
 exact⟨_,wY,6,rfl,rfl⟩
def ba0:Ba:=⟨⟨0,0,[]⟩,⟨0,false⟩,⟨false,0,[],false,false,false,false,0⟩,[]⟩
def aK.pb (o:aK) (s:Sc):Prop:=(0≤o.part∧o.part< (s.parts.length:Nat))∧(0≤o.bar∧o.bar< (s.bars.length:Nat))
instance (o:aK) (s:Sc):Decidable (o.pb s):=by unfold aK.pb;infer_instance
def aK.j (o:aK):Nat:=o.part.toNat
def aK.b (o:aK):Nat:=o.bar.toNat
def aK.v (o:aK):Nat:=o.voice.toNat
def aK.a (o:aK):Nat:=o.at_.toNat
def aK.n (o:aK):Nat:=o.count.toNat
def aK.cell (o:aK) (s:Sc):List Vo:=(s.parts.getD o.j pa0).cells.getD o.b []
def aK.vo (o:aK) (s:Sc):List Ev:=((o.cell s).getD o.v ⟨[]⟩).l
abbrev Ans:=Int×Sc×aK
def ans (s:Sc) (o:aK) (e:Int):Ans:=(e,s,o)
def Lr (s:Sc) (o:aK):Ans:=if o.pb s∧(0≤o.voice∧o.voice< ((o.cell s).length:Nat))∧(0≤o.at_∧0≤o.count∧o.at_≤((o.vo s).length:Nat)∧o.count≤((o.vo s).length:Nat) - o.at_) then(0,oL s o.j o.b o.v (jE (o.vo s) o.a o.n o.events),aI2 o o.j o.b o.v o.a o.n (o.vo s)) else ans s o 90
def Qs (s:Sc) (o:aK):Ans:=if(0≤o.bar∧o.bar≤(s.bars.length:Nat))∧nU s.parts.length o.bars.length o.cells=true∧nU s.parts.length o.bars.length o.dyns=true then(0,pG s o o.b,Zn o o.b) else ans s o 90
def Ls (s:Sc) (o:aK):Ans:=if 0≤o.bar∧0≤o.count∧o.bar≤(s.bars.length:Nat)∧o.count≤(s.bars.length:Nat) - o.bar then(0,mY s o.b o.n,Yj s o.b o.n) else ans s o 90
def Lt (s:Sc) (o:aK):Ans:=if(0≤o.bar∧o.bar< (s.bars.length:Nat))∧o.bars.length=1 then(0,Bh s o.b (o.bars.getD 0 ba0),⟨4,0,o.b,0,0,0,[],[s.bars.getD o.b ba0],[],[],0,0,⟨#[]⟩⟩) else ans s o 90
def Lu (s:Sc) (o:aK):Ans:=if o.pb s∧o.dyns.length=1∧(o.dyns.getD 0 []).length=1 then(0,aGm s o.j o.b ((o.dyns.getD 0 []).getD 0 []),aAj s o.j o.b) else ans s o 90
def Hq (s:Sc) (o:aK):Ans:=if o.pb s∧(0≤o.voice∧o.voice≤((o.cell s).length:Nat))∧o.cells.length=1∧(o.cells.getD 0 []).length=1∧((o.cells.getD 0 []).getD 0 []).length=1 then(0,Gz s o.j o.b o.v (((o.cells.getD 0 []).getD 0 []).getD 0 ⟨[]⟩),aAd o.j o.b o.v) else ans s o 90
def Ag (s:Sc) (o:aK):Ans:=if o.pb s∧(0≤o.voice∧o.voice< ((o.cell s).length:Nat)) then(0,Af s o.j o.b o.v,Xy o.j o.b o.v ((o.cell s).getD o.v ⟨[]⟩)) else ans s o 90
def Wl (s:Sc) (o:aK):Ans:=
  if o.upOk s.parts.length=true then
    (if 0≤o.part then(iL o.steps o.halves (s.parts.getD o.j pa0).cells,yY s o.j o.steps o.halves,Ve o.j o.steps o.halves)
     else(Ar s o.steps o.halves,wR s o.steps o.halves,Ve (-1) o.steps o.halves))
  else ans s o 90
def rG (s:Sc) (o:aK):Ans:=
 if o.kind=1 then Lr s o else if o.kind=2 then Qs s o else if o.kind=3 then Ls s o else if o.kind=4 then Lt s o else if o.kind=5 then Lu s o
 else if o.kind=6 then Hq s o else if o.kind=7 then Ag s o else if o.kind=8 then Wl s o else if o.kind=9 then(0,Yu s o,aDz s) else ans s o 90
def gY (s:Sc) (o:aK):Ans:=
 if s.checkR.2=0 then(if(rG s o).1=0 then((rG s o).2.1.checkR.2,(rG s o).2) else rG s o) else ans s o s.checkR.2
def rJ (r:Ans):AV:=if r.1=0 then .tup [r.2.1.av,r.2.2.av,.int .i64 0] else errR r.1
end Go.Proofs.Pv
namespace Go.Proofs.Pv
open Go Go.Proofs
set_option maxRecDepth 100000
theorem Gq {α:Type} {l es:List α} {a:Nat} {x:α} (h:x∈insL l es a):x∈l∨x∈es:=by
 simp only[insL,List.mem_append] at h
 rcases h with(h|h)|h
 ·exact .inl (List.mem_of_mem_take h)
 ·exact .inr h
 ·exact .inl (List.mem_of_mem_drop h)
theorem Gs {α:Type} {l:List α} {a d:Nat} {x:α} (h:x∈jP l a d):x∈l:=by
 simp only[jP,List.mem_append] at h
 rcases h with h|h
 ·exact List.mem_of_mem_take h
 ·exact List.mem_of_mem_drop h
theorem Pn {α:Type} {l:List α} {a d:Nat} {x:α} (h:x∈oH a d l):x∈l:=List.mem_of_mem_drop (List.mem_of_mem_take h)
theorem getD_mem {α:Type} {l:List α} {i:Nat} {d:α} (h:i<l.length):l.getD i d∈l:=by rw[getD_at h];exact List.getElem_mem h
theorem getD_nil {α:Type} {l:List (List α)} {i:Nat} {x:α} (h:x∈l.getD i []):l.getD i []∈l:=by
 by_cases hi:i<l.length
 ·exact getD_mem hi
 ·rw[List.getD_eq_getElem?_getD,List.getElem?_eq_none (by omega)] at h;cases h
theorem Zy {g:Nat→Pa→Pa} {ps:List Pa} {q:Pa} (h:q∈ps.mapIdx g): ∃j,∃hj:j<ps.length,q=g j ps[j]:=by
 obtain⟨j,hj,rfl⟩:=List.mem_iff_getElem.1 h
 rw[List.length_mapIdx] at hj
 exact⟨j,hj,List.getElem_mapIdx ..⟩
theorem Tm {s:Sc} {o:aK} {b:Nat} (hs:s.small) (ho:o.fine) (hb:b≤s.bars.length) (hn:s.bars.length≤400000):(pG s o b).small:=by
 refine⟨fun x hx=>?_,fun q hq=>?_,?_,?_⟩
 ·rcases Gq hx with h|h
  ·exact hs.bars x h
  ·exact(ho.ba x h).2
 ·obtain⟨j,hj,rfl⟩:=Zy hq
  have hp:=hs.parts _ (List.getElem_mem hj)
  refine⟨fun c hc=>?_,fun d hd=>?_⟩
  ·rcases Gq hc with h|h
   ·exact hp.voices c h
   ·have:=(ho.ce _ (getD_nil h)).2 c h
    exact this
  ·rcases Gq hd with h|h
   ·exact hp.dyns d h
   ·exact(ho.dy _ (getD_nil h)).2 d h
 ·show(insL s.bars o.bars b).length≤1000000
  rw[xM hb];have:=ho.bal;omega
 ·show(s.parts.mapIdx _).length≤1000000
  rw[List.length_mapIdx];exact hs.nparts
theorem Qj {s:Sc} {b c:Nat} (hs:s.small) (hb:b+c≤s.bars.length):(mY s b c).small:=by
 refine⟨fun x hx=>hs.bars x (Gs hx),fun q hq=>?_,?_,?_⟩
 ·obtain⟨j,hj,rfl⟩:=Zy hq
  have hp:=hs.parts _ (List.getElem_mem hj)
  exact⟨fun c hc=>hp.voices c (Gs hc),fun d hd=>hp.dyns d (Gs hd)⟩
 ·show(jP s.bars b c).length≤1000000
  rw[xN hb];have:=hs.nbars;omega
 ·show(s.parts.mapIdx _).length≤1000000
  rw[List.length_mapIdx];exact hs.nparts
theorem out_ok {s:Sc} {o:aK} (h:s.checkR.2=0) {t:Sc} {b:aK} (hd:rG s o=(0,t,b)):rJ (gY s o)=uB t b.av:=by
 rw[gY,if_pos h,hd];rfl
theorem oD {s:Sc} {o:aK} (h:s.checkR.2=0) {e:Int} (he:e≠0) {r:Sc×aK} (hd:rG s o=(e,r)):rJ (gY s o)=errR e:=by
 rw[gY,if_pos h,hd,if_neg he,rJ,if_neg he]
theorem kW {a:Int} (h:0≤a):a=((a.toNat:Nat):Int):=by omega
theorem Lh {α:Type} {l:List α} {d:α} (h:l.length=1):l=[l.getD 0 d]:=by
 match l,h with
 |[x],_=>rfl
section
variable (s:Sc) (o:aK) (hs:s.fine) (ho:o.fine) (hchk:s.checkR.2=0)
include hs ho hchk
theorem all1 (hk:o.kind=1):PC Tryz.prog gl 7 [s.av,o.av] (fun v=>v=rJ (gY s o)):=by
 have hr:=nV hchk
 have hg:=aA9 hr hs.sm fun b hb=>(hs.sh b hb).e
 have hd:rG s o=Lr s o:=by simp [rG,hk]
 by_cases h1:o.pb s
 rotate_left
 ·rw[oD hchk (e:=90) (by decide) (r:=(s,o)) (by rw[hd,Lr,if_neg (fun h=>h1 h.1)];rfl)]
  by_cases h2:0≤o.part∧o.part< (s.parts.length:Nat)
  ·exact aOe s o hk hs.sm hg hchk h2 fun h3=>h1 ⟨h2,h3⟩
  ·exact aOd s o hk hs.sm hg hchk h2
 obtain⟨⟨p0,p1⟩,b0,b1⟩:=h1
 have hj:o.j<s.parts.length:=by simp only[aK.j];omega
 have hb:o.b<s.bars.length:=by simp only[aK.b];omega
 have hm:=getD_mem (d:=pa0) hj
 have hcl:=(hr.len _ hm).1
 have hb0:o.b< (s.parts.getD o.j pa0).cells.length:=by omega
 have hp:o.part=((o.j:Nat):Int):=kW p0
 have hq:o.bar=((o.b:Nat):Int):=kW b0
 have hcm:o.cell s∈(s.parts.getD o.j pa0).cells:=getD_mem hb0
 by_cases h2:0≤o.voice∧o.voice< ((o.cell s).length:Nat)
 rotate_left
 ·rw[oD hchk (e:=90) (by decide) (r:=(s,o)) (by rw[hd,Lr,if_neg (fun h=>h2 h.2.1)];rfl)]
  exact aOf s o hk hs.sm hg hchk o.j o.b hj hb hb0 hp hq h2
 have hv:o.voice=((o.v:Nat):Int):=kW h2.1
 have hv0:o.v< (o.cell s).length:=by simp only[aK.v];omega
 have hvm:(o.cell s).getD o.v ⟨[]⟩∈o.cell s:=getD_mem hv0
 have hvl:(o.vo s).length≤64:=(hr.vo _ hm _ hcm _ hvm).2
 have hvs:Vo.small ((o.cell s).getD o.v ⟨[]⟩):=((hs.sm.parts _ hm).voices _ hcm).2 _ hvm
 by_cases h3:0≤o.at_∧0≤o.count∧o.at_≤((o.vo s).length:Nat)∧o.count≤((o.vo s).length:Nat) - o.at_
 rotate_left
 ·rw[oD hchk (e:=90) (by decide) (r:=(s,o)) (by rw[hd,Lr,if_neg (fun h=>h3 h.2.2)];rfl)]
  exact aOg s o hk hs.sm hg hchk o.j o.b o.v hj hb hb0 hv0 hp hq hv h3 (by show(o.vo s).length≤1000000;omega) ho.at_
 have ha:o.at_=((o.a:Nat):Int):=kW h3.1
 have hn:o.count=((o.n:Nat):Int):=kW h3.2.1
 have han:o.a+o.n≤(o.vo s).length:=by omega
 rw[out_ok hchk (t:=oL s o.j o.b o.v (jE (o.vo s) o.a o.n o.events)) (b:=aI2 o o.j o.b o.v o.a o.n (o.vo s)) (by rw[hd,Lr,if_pos ⟨⟨⟨p0,p1⟩,b0,b1⟩,h2,h3⟩])]
 have hel:=ho.evl
 refine aLg s o hk hs.sm hg hchk o.j o.b o.v o.a o.n hj hb hb0 hv0 hp hq hv ha hn ⟨o.vo s⟩ rfl han (by show(o.vo s).length≤1000000;omega) (by omega) (fun e he=>(ho.ev e he).sh) (by show(o.vo s).length+o.events.length+1≤1000000;omega) (aCy hs.sm hj hb0 hv0 ⟨?_,fun e he=>?_⟩)
 ·show(jE (o.vo s) o.a o.n o.events).length≤1000000
  simp only[jE,List.length_append,List.length_take,List.length_drop];omega
 ·have he:e∈jE (o.vo s) o.a o.n o.events:=he
  simp only[jE,List.mem_append] at he
  rcases he with(h|h)|h
  ·exact hvs.2 e (List.mem_of_mem_take h)
  ·exact ho.ev e h
  ·exact hvs.2 e (List.mem_of_mem_drop h)
theorem all2 (hk:o.kind=2):PC Tryz.prog gl 7 [s.av,o.av] (fun v=>v=rJ (gY s o)):=by
 have hr:=nV hchk
 have hg:s.goodU oK:=tC aAp hr hs
 have hd:rG s o=Qs s o:=by simp [rG,hk]
 have hb1:=hr.b1
 have hp1:=hr.p1
 have hnb:=ho.bal
 by_cases h1:0≤o.bar∧o.bar≤(s.bars.length:Nat)
 rotate_left
 ·rw[oD hchk (e:=90) (by decide) (r:=(s,o)) (by rw[hd,Qs,if_neg (fun h=>h1 h.1)];rfl)]
  exact iU s o 2 2 (by decide) hk hs.sm hg hchk _ fun F hF hro W=>aKo s o hk (by omega) (fun h=>h1 ⟨h.1,by omega⟩) hF hro
 by_cases h2:nU s.parts.length o.bars.length o.cells=true∧nU s.parts.length o.bars.length o.dyns=true
 rotate_left
 ·rw[oD hchk (e:=90) (by decide) (r:=(s,o)) (by rw[hd,Qs,if_neg (fun h=>h2 h.2)];rfl)]
  exact iU s o 2 2 (by decide) hk hs.sm hg hchk _ fun F hF hro W=>aKp s o hk (by omega) ⟨h1.1,by omega⟩ ho.cel ho.dyl h2 hF hro
 rw[out_ok hchk (t:=pG s o o.b) (b:=Zn o o.b) (by rw[hd,Qs,if_pos ⟨h1,h2⟩])]
 have HB:o.bar=((o.b:Nat):Int):=kW h1.1
 have hb:o.b≤s.bars.length:=by omega
 have hts:=Tm hs.sm ho hb (by omega)
 have hce: ∀c∈o.cells,∀x∈c,wC x:=fun c hc x hx=>⟨((ho.ce c hc).2 x hx).1,fun v hv=>(((ho.ce c hc).2 x hx).2 v hv).sh⟩
 have hdy: ∀d∈o.dyns,∀x∈d,x.length≤1000000:=fun d hd x hx=>((ho.dy d hd).2 x hx).1
 refine iU s o 2 2 (by decide) hk hs.sm hg hchk _ fun F hF hro W=>?_
 exact aQj s o hk hs.sm hg hr.len o.b hb HB (fun x hx=>(ho.ba x hx).1) (by omega) hnb h2.1 h2.2 hce hdy hts hF hro
theorem all3 (hk:o.kind=3):PC Tryz.prog gl 7 [s.av,o.av] (fun v=>v=rJ (gY s o)):=by
 have hr:=nV hchk
 have hg:s.goodU oK:=tC aAp hr hs
 have hd:rG s o=Ls s o:=by simp [rG,hk]
 have hb1:=hr.b1
 by_cases h1:0≤o.bar∧0≤o.count∧o.bar≤(s.bars.length:Nat)∧o.count≤(s.bars.length:Nat) - o.bar
 rotate_left
 ·rw[oD hchk (e:=90) (by decide) (r:=(s,o)) (by rw[hd,Ls,if_neg h1];rfl)]
  exact iU s o 3 3 (by decide) hk hs.sm hg hchk _ fun F hF hro W=>aKq s o hk (by omega) ho.fr h1 hF hro
 rw[out_ok hchk (t:=mY s o.b o.n) (b:=Yj s o.b o.n) (by rw[hd,Ls,if_pos h1])]
 have HB:o.bar=((o.b:Nat):Int):=kW h1.1
 have HC:o.count=((o.n:Nat):Int):=kW h1.2.1
 have hb:o.b+o.n≤s.bars.length:=by omega
 have hts:=Qj hs.sm hb
 refine iU s o 3 3 (by decide) hk hs.sm hg hchk _ fun F hF hro W=>?_
 exact aL3 s o hk hs.sm hg hr.len o.b o.n hb HB HC (by omega) hts hF hro
theorem all4 (hk:o.kind=4):PC Tryz.prog gl 7 [s.av,o.av] (fun v=>v=rJ (gY s o)):=by
 have hr:=nV hchk
 have hg:s.goodU oK:=tC aAp hr hs
 have hd:rG s o=Lt s o:=by simp [rG,hk]
 by_cases h1:(0≤o.bar∧o.bar< (s.bars.length:Nat))∧o.bars.length=1
 rotate_left
 ·rw[oD hchk (e:=90) (by decide) (r:=(s,o)) (by rw[hd,Lt,if_neg h1];rfl)]
  exact iU s o 4 4 (by decide) hk hs.sm hg hchk _ fun F hF hro W=>aU2 s o hk hg h1 hF hro
 have HB:o.bar=((o.b:Nat):Int):=kW h1.1.1
 have hb:o.b<s.bars.length:=by have:=h1.1.2;omega
 have hx:o.bars=[o.bars.getD 0 ba0]:=Lh h1.2
 have hxm:o.bars.getD 0 ba0∈o.bars:=getD_mem (by omega)
 rw[out_ok hchk (t:=Bh s o.b (o.bars.getD 0 ba0)) (b:=aD8 s o.b hb) (by rw[hd,Lt,if_pos h1,aD8,getD_at hb])]
 exact iU s o 4 4 (by decide) hk hs.sm hg hchk _ fun F hF hro W=>aQw s o hk hs.sm hg o.b hb HB _ hx (ho.ba _ hxm).1 (ho.ba _ hxm).2 hF hro
theorem all5 (hk:o.kind=5):PC Tryz.prog gl 7 [s.av,o.av] (fun v=>v=rJ (gY s o)):=by
 have hr:=nV hchk
 have hg:s.goodU oK:=tC aAp hr hs
 have hd:rG s o=Lu s o:=by simp [rG,hk]
 have hl: ∀j (h:j<s.parts.length),s.parts[j].cells.length=s.bars.length:=fun j h=>(hr.len _ (List.getElem_mem h)).1
 by_cases h1:o.pb s∧o.dyns.length=1∧(o.dyns.getD 0 []).length=1
 rotate_left
 ·rw[oD hchk (e:=90) (by decide) (r:=(s,o)) (by rw[hd,Lu,if_neg h1];rfl)]
  exact iU s o 5 5 (by decide) hk hs.sm hg hchk _ fun F hF hro W=>aTj s o hk hg (fun⟨h2,h3,x,hx⟩=>h1 ⟨⟨h2,h3⟩,by rw[hx];exact⟨rfl,rfl⟩⟩) hl hF hro
 obtain⟨⟨⟨p0,p1⟩,b0,b1⟩,h2,h3⟩:=h1
 have hj:o.j<s.parts.length:=by simp only[aK.j];omega
 have hb:o.b<s.bars.length:=by simp only[aK.b];omega
 have hx:o.dyns=[[(o.dyns.getD 0 []).getD 0 []]]:=by
  conv=>lhs;rw[Lh (d:=[]) h2]
  conv=>lhs;rw[Lh (d:=[]) h3]
 have hm1:o.dyns.getD 0 []∈o.dyns:=getD_mem (by omega)
 have hm2:(o.dyns.getD 0 []).getD 0 []∈o.dyns.getD 0 []:=getD_mem (by omega)
 have hy:=(ho.dy _ hm1).2 _ hm2
 rw[out_ok hchk (t:=aGm s o.j o.b ((o.dyns.getD 0 []).getD 0 [])) (b:=aAj s o.j o.b) (by rw[hd,Lu,if_pos ⟨⟨⟨p0,p1⟩,b0,b1⟩,h2,h3⟩])]
 exact iU s o 5 5 (by decide) hk hs.sm hg hchk _ fun F hF hro W=>aOp s o hk hs.sm hg o.j o.b hj hb (kW p0) (kW b0) (hl _ hj) (hr.len _ (List.getElem_mem hj)).2 _ hx hy.1 hy.2 hF hro
theorem all6 (hk:o.kind=6):PC Tryz.prog gl 7 [s.av,o.av] (fun v=>v=rJ (gY s o)):=by
 have hr:=nV hchk
 have hg:s.goodU fJ:=tC sz_V hr hs
 have hd:rG s o=Hq s o:=by simp [rG,hk]
 by_cases h1:o.pb s
 rotate_left
 ·rw[oD hchk (e:=90) (by decide) (r:=(s,o)) (by rw[hd,Hq,if_neg (fun h=>h1 h.1)];rfl)]
  exact iU s o 6 6 (by decide) hk hs.sm hg hchk _ fun F hF hro W=>aHq s o hk h1 hF hro
 obtain⟨⟨p0,p1⟩,b0,b1⟩:=h1
 have hj:o.j<s.parts.length:=by simp only[aK.j];omega
 have hb:o.b<s.bars.length:=by simp only[aK.b];omega
 have hc1:=(hr.len _ (List.getElem_mem hj)).1
 have hce:s.parts[o.j].cells[o.b]'(by omega)=o.cell s:=by rw[aK.cell,getD_at hj,getD_at (by omega)]
 have hcl:=(hr.cell _ (List.getElem_mem hj) _ (List.getElem_mem (show o.b<s.parts[o.j].cells.length by omega))).2
 rw[hce] at hcl
 by_cases h2:(0≤o.voice∧o.voice≤((o.cell s).length:Nat))∧o.cells.length=1∧(o.cells.getD 0 []).length=1∧((o.cells.getD 0 []).getD 0 []).length=1
 rotate_left
 ·rw[oD hchk (e:=90) (by decide) (r:=(s,o)) (by rw[hd,Hq,if_neg (fun h=>h2 h.2)];rfl)]
  exact iU s o 6 6 (by decide) hk hs.sm hg hchk _ fun F hF hro W=>aK9 s o hk hg o.j o.b hj hb (kW p0) (kW b0) hc1 (o.cell s) hce (by omega) (fun⟨h3,x,hx⟩=>h2 ⟨h3,by rw[hx];exact⟨rfl,rfl,rfl⟩⟩) hF hro
 obtain⟨⟨v0,v1⟩,h3,h4,h5⟩:=h2
 have hv:o.v≤(o.cell s).length:=by simp only[aK.v];omega
 have hx:o.cells=[[[((o.cells.getD 0 []).getD 0 []).getD 0 ⟨[]⟩]]]:=by
  conv=>lhs;rw[Lh (d:=[]) h3]
  conv=>lhs;rw[Lh (d:=[]) h4]
  conv=>lhs;rw[Lh (d:=⟨[]⟩) h5]
 have hm1:o.cells.getD 0 []∈o.cells:=getD_mem (by omega)
 have hm2:(o.cells.getD 0 []).getD 0 []∈o.cells.getD 0 []:=getD_mem (by omega)
 have hm3:((o.cells.getD 0 []).getD 0 []).getD 0 ⟨[]⟩∈(o.cells.getD 0 []).getD 0 []:=getD_mem (by omega)
 have hy:=((ho.ce _ hm1).2 _ hm2).2 _ hm3
 rw[out_ok hchk (t:=Gz s o.j o.b o.v (((o.cells.getD 0 []).getD 0 []).getD 0 ⟨[]⟩)) (b:=aAd o.j o.b o.v) (by rw[hd,Hq,if_pos ⟨⟨⟨p0,p1⟩,b0,b1⟩,⟨v0,v1⟩,h3,h4,h5⟩])]
 exact iU s o 6 6 (by decide) hk hs.sm hg hchk _ fun F hF hro W=>aGb s o hk hs.sm hg o.j o.b o.v hj hb (kW p0) (kW b0) (kW v0) hc1 (o.cell s) hce hv (by omega) _ hx hy hy.sh hF hro
theorem all7 (hk:o.kind=7):PC Tryz.prog gl 7 [s.av,o.av] (fun v=>v=rJ (gY s o)):=by
 have _:=ho
 have hr:=nV hchk
 have hg:s.goodU fJ:=tC sz_V hr hs
 have hd:rG s o=Ag s o:=by simp [rG,hk]
 by_cases h1:o.pb s
 rotate_left
 ·rw[oD hchk (e:=90) (by decide) (r:=(s,o)) (by rw[hd,Ag,if_neg (fun h=>h1 h.1)];rfl)]
  exact iU s o 7 7 (by decide) hk hs.sm hg hchk _ fun F hF hro W=>aGl s o hk h1 hF hro
 obtain⟨⟨p0,p1⟩,b0,b1⟩:=h1
 have hj:o.j<s.parts.length:=by simp only[aK.j];omega
 have hb:o.b<s.bars.length:=by simp only[aK.b];omega
 have hc1:=(hr.len _ (List.getElem_mem hj)).1
 have hce:s.parts[o.j].cells[o.b]'(by omega)=o.cell s:=by rw[aK.cell,getD_at hj,getD_at (by omega)]
 have hcl:=(hr.cell _ (List.getElem_mem hj) _ (List.getElem_mem (show o.b<s.parts[o.j].cells.length by omega))).2
 rw[hce] at hcl
 by_cases h2:0≤o.voice∧o.voice< ((o.cell s).length:Nat)
 rotate_left
 ·rw[oD hchk (e:=90) (by decide) (r:=(s,o)) (by rw[hd,Ag,if_neg (fun h=>h2 h.2)];rfl)]
  exact iU s o 7 7 (by decide) hk hs.sm hg hchk _ fun F hF hro W=>aHr s o hk hg o.j o.b hj hb (kW p0) (kW b0) hc1 (o.cell s) hce (by omega) h2 hF hro
 have hv:o.v< (o.cell s).length:=by simp only[aK.v];omega
 rw[out_ok hchk (t:=Af s o.j o.b o.v) (b:=Xy o.j o.b o.v ((o.cell s).getD o.v ⟨[]⟩)) (by rw[hd,Ag,if_pos ⟨⟨⟨p0,p1⟩,b0,b1⟩,h2⟩])]
 exact iU s o 7 7 (by decide) hk hs.sm hg hchk _ fun F hF hro W=>aDk s o hk hs.sm hg o.j o.b o.v hj hb (kW p0) (kW b0) (kW h2.1) hc1 (o.cell s) hce hv (by omega) _ (getD_at hv).symm hF hro
theorem all8 (hk:o.kind=8):PC Tryz.prog gl 7 [s.av,o.av] (fun v=>v=rJ (gY s o)):=by
 have _:=ho
 have hr:=nV hchk
 have hg:s.goodU dG:=tC sz_E hr hs
 have hok:=aRl hr
 have hb1:=hr.b1
 have hd:rG s o=Wl s o:=by simp [rG,hk]
 by_cases h1:o.upOk s.parts.length=true
 rotate_left
 ·rw[oD hchk (e:=90) (by decide) (r:=(s,o)) (by rw[hd,Wl,if_neg h1];rfl)]
  exact iU s o 8 8 (by decide) hk hs.sm hg hchk _ fun F hF hro W=>up_no s o hk hg (by simpa using h1) hF hro
 rw[Wl,if_pos h1] at hd
 have h2:=h1
 simp only[aK.upOk,Bool.and_eq_true,decide_eq_true_eq] at h2
 obtain⟨u1,⟨u2,u3⟩,u4,u5⟩:=h2
 by_cases h3:0≤o.part
 ·rw[if_pos h3] at hd
  have hj:o.j<s.parts.length:=by simp only[aK.j];omega
  have hcl:=(hr.len _ (List.getElem_mem hj)).1
  have hgd:s.parts.getD o.j pa0=s.parts[o.j]:=getD_at hj
  rw[hgd] at hd
  refine iU s o 8 8 (by decide) hk hs.sm hg hchk _ fun F hF hro W=>?_
  have:=aUt s o hk hs.sm hg hok o.j hj (kW h3) s.parts[o.j].cells rfl (by omega) ⟨u2,u3,u4,u5⟩ hF hro (W:=W)
  by_cases he:iL o.steps o.halves s.parts[o.j].cells=0
  ·rw[he] at hd
   rw[if_pos he] at this
   rw[out_ok hchk hd];exact this
  ·rw[if_neg he] at this
   rw[oD hchk he hd];exact this
 ·rw[if_neg h3] at hd
  refine iU s o 8 8 (by decide) hk hs.sm hg hchk _ fun F hF hro W=>?_
  have:=aUg s o hk hs.sm hg hok (by omega) (fun p hp=>by have:=(hr.len p hp).1;omega) ⟨u2,u3,u4,u5⟩ hF hro (W:=W)
  by_cases he:Ar s o.steps o.halves=0
  ·rw[he] at hd
   rw[if_pos he] at this
   rw[out_ok hchk hd];exact this
  ·rw[if_neg he] at this
   rw[oD hchk he hd];exact this
theorem all9 (hk:o.kind=9):PC Tryz.prog gl 7 [s.av,o.av] (fun v=>v=rJ (gY s o)):=by
 have _:=ho
 have hr:=nV hchk
 have hg:s.goodU oK:=tC aAp hr hs
 have hd:rG s o=(0,Yu s o,aDz s):=by simp [rG,hk]
 rw[out_ok hchk hd]
 exact iU s o 9 9 (by decide) hk hs.sm hg hchk _ fun F hF hro W=>aJ7 s o hk hs.sm hg hF hro
end
theorem aC3 (s:Sc) (o:aK) (hs:s.fine) (ho:o.fine):PC Tryz.prog gl 7 [s.av,o.av] (fun v=>v=rJ (gY s o)):=by
 by_cases hchk:s.checkR.2=0
 rotate_left
 ·rw[show rJ (gY s o)=errR s.checkR.2 by rw[gY,if_neg hchk,rJ,ans,if_neg hchk]]
  exact aDt s o hs.sm hchk
 by_cases h1:o.kind=1
 ·exact all1 s o hs ho hchk h1
 by_cases h2:o.kind=2
 ·exact all2 s o hs ho hchk h2
 by_cases h3:o.kind=3
 ·exact all3 s o hs ho hchk h3
 by_cases h4:o.kind=4
 ·exact all4 s o hs ho hchk h4
 by_cases h5:o.kind=5
 ·exact all5 s o hs ho hchk h5
 by_cases h6:o.kind=6
 ·exact all6 s o hs ho hchk h6
 by_cases h7:o.kind=7
 ·exact all7 s o hs ho hchk h7
 by_cases h8:o.kind=8
 ·exact all8 s o hs ho hchk h8
 by_cases h9:o.kind=9
 ·exact all9 s o hs ho hchk h9
 rw[oD hchk (e:=90) (by decide) (r:=(s,o)) (by simp only[rG,h1,h2,h3,h4,h5,h6,h7,h8,h9,if_false];rfl)]
 exact aLr s o hs.sm (tC aAp (nV hchk) hs) hchk fun n hn1 hn2=>by omega
end Go.Proofs.Pv
namespace Go.Proofs.Pv
open Go Go.Proofs
set_option maxRecDepth 100000
theorem rH:I64 0:=by unfold I64;decide
structure aK.typedB (o:aK):Prop where
 bar:I64 o.bar
 bars: ∀b∈o.bars,b.typed
 dyns: ∀l∈o.dyns,∀d∈l,∀t∈d,t.at_.fits
theorem aQ2 {b:Ba} (h:b.fewB=true):b.meter.groups.length≤12∧b.turn.endings.length≤12∧b.tempos.length≤12:=by
 simp only[Ba.fewB,Bool.not_eq_true',Bool.or_eq_false_iff,decide_eq_false_iff_not] at h
 omega
theorem aGx {c:List Vo} (h:Ie c=true):c.length≤4∧ ∀v∈c,v.l.length≤12∧ ∀e∈v.l,e.small:=by
 simp only[Ie,Bool.and_eq_true,Bool.not_eq_true',decide_eq_false_iff_not,List.all_eq_true] at h
 exact⟨by omega,fun v hv=>Fe (h.2 v hv)⟩
theorem ba_ok {b:Ba} (h:b.fewB=true) (t:b.typed):b.ok:=by
 have:=aQ2 h
 exact⟨by omega,t.1,t.2.1,by omega,t.2.2⟩
theorem aO0 {b:Ba} (h:b.fewB=true):b.short:=by
 have:=aQ2 h
 exact⟨by omega,by omega,by omega⟩
theorem aLq {s:Sc} (ht:s.typed) (h:s.fewB=true):s.fine:=by
 have hf:=Rf ht h
 refine⟨hf.small,fun b hb=>⟨(hf.small.bars b hb).groups,hf.ends b hb,(hf.small.bars b hb).tempos⟩⟩
theorem aTo {o:aK} (ht:o.typed) (hB:o.typedB) (h:o.fewB=true):o.fine:=by
 simp only[aK.fewB,Bool.and_eq_true,Bool.not_eq_true',decide_eq_false_iff_not,List.all_eq_true] at h
 obtain⟨⟨h1,h2,h3,h4,h5⟩,h6,h7⟩:=h
 obtain⟨b1,b2⟩:=xO h4
 obtain⟨e1,e2⟩:=Fe h5
 refine⟨e2,by omega,fun b hb=>⟨aO0 (b2 b hb),ba_ok (b2 b hb) (hB.bars b hb)⟩,by omega,fun l hl=>?_,by omega,fun l hl=>?_,by omega,ht.at_,hB.bar⟩
 ·obtain⟨c1,c2⟩:=xO (h6 l hl)
  refine⟨by omega,fun c hc=>?_⟩
  obtain⟨q1,q2⟩:=aGx (c2 c hc)
  exact⟨by omega,fun v hv=>⟨by have:=(q2 v hv).1;omega,(q2 v hv).2⟩⟩
 ·obtain⟨c1,c2⟩:=xO (h7 l hl)
  refine⟨by omega,fun d hd=>⟨?_,fun t ht'=>hB.dyns l hl d hd t ht'⟩⟩
  have:=c2 d hd
  simp only[Ux,Bool.not_eq_true',decide_eq_false_iff_not] at this
  omega
end Go.Proofs.Pv
namespace Go.Proofs.Pv
open Go Go.Proofs
set_option maxRecDepth 100000
theorem aN1 {d:Nat} {cs:List AV} (h:okV Tryz.prog (d+5) 58 cs): ∃l:List (List Dy),cs=[dQ l]∧ ∀a∈l,∀t∈a,t.at_.fits:=by obtain⟨l,e,q⟩:=aH7 h;exact⟨l,e,q⟩
theorem aN2 {d:Nat} {cs:List AV} (h:okV Tryz.prog (d+6) 30 cs): ∃l:List (List (List Dy)),cs=[.sl 1 (l.map dQ) .none]∧ ∀a∈l,∀x∈a,∀t∈x,t.at_.fits:=by
 obtain⟨rows,rfl,_,hr⟩:=kR Tryz.underlying30 h
 obtain⟨l,rfl,hq⟩:=nN (f:=dQ) (Q:=fun a:(List (List Dy))=> ∀x∈a,∀t∈x,t.at_.fits) rows fun r hr'=>by
  obtain⟨c,rfl,hk⟩:=hr r hr'
  obtain⟨a,e1,q1⟩:=aN1 hk
  exact⟨a,by rw[e1];simp only[mkRow,ag58,Bool.false_eq_true,if_false];rfl,q1⟩
 exact⟨l,by rw[show Tryz.prog.cellsOf 58=1 from by kernel_rfl],hq⟩
theorem aS3 {d:Nat} {cs:List AV} (h:okV Tryz.prog (d+10) 34 cs): ∃a:aK,cs=a.cells13∧a.typed∧a.typedB:=by
 have t0:mJ Tryz.prog (okV Tryz.prog (d+9)) [3,27,3,28,22,29,30,32,9] cs:=iT Tryz.underlying34 h
 obtain⟨_,_,rfl,g0,t1⟩:=bF t0
 obtain⟨k,rfl,ik⟩:=iE g0
 obtain⟨_,_,rfl,g1,t2⟩:=bF t1
 obtain⟨p,rfl,qp⟩:=aT8 g1
 obtain⟨_,_,rfl,g2,t3⟩:=bF t2
 obtain⟨n,rfl,i_n⟩:=iE g2
 obtain⟨_,_,rfl,g3,t4⟩:=bF t3
 obtain⟨e,rfl,qe⟩:=aH5 g3
 obtain⟨_,_,rfl,g4,t5⟩:=bF t4
 obtain⟨b,rfl,qb⟩:=aH8 g4
 obtain⟨_,_,rfl,g5,t6⟩:=bF t5
 obtain⟨c,rfl,qc⟩:=aO9 g5
 obtain⟨_,_,rfl,g6,t7⟩:=bF t6
 obtain⟨y,rfl,qy⟩:=aN2 g6
 obtain⟨_,_,rfl,g7,t8⟩:=bF t7
 obtain⟨v,rfl,qv⟩:=aT9 g7
 obtain⟨_,_,rfl,g8,t9⟩:=bF t8
 obtain⟨t,rfl⟩:=Uu g8
 obtain rfl:=kZ t9
 exact⟨⟨k,p.1,p.2.1,p.2.2.1,p.2.2.2,n,e,b,c,y,v.1,v.2,t⟩,rfl,⟨qp.2.2.2,i_n⟩,⟨qp.2.1,qb,qy⟩⟩
theorem aS4 {d:Nat} {cs:List AV} (h:okV Tryz.prog (d+10) 34 cs): ∃o:aK,AV.agg cs=o.av∧o.typed∧o.typedB:=by
 obtain⟨o,rfl,q1,q2⟩:=aS3 h
 exact⟨o,rfl,q1,q2⟩
end Go.Proofs.Pv
