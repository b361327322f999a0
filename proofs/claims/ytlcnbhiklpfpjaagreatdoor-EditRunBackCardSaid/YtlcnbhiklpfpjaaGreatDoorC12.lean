/-
Layer 9: edit.Apply at an edit of events, told plainly.
Conditions: none but those that each statement names.
-/
import Derived.Test.YtlcnbhiklpfpjaaGreatDoorC09k
import Derived.Test.YtlcnbhiklpfpjaaGreatDoorC11u
import Derived.Test.YtlcnbhiklpfpjaaGreatDoorC11z
import Derived.Test.YtlcnbhiklpfpjaaGreatDoorC09s
set_option linter.unusedVariables false
set_option linter.unusedSimpArgs false
set_option maxRecDepth 100000
set_option maxHeartbeats 16000000
namespace Go.Proofs.Pv
open Go Go.Proofs
def Bh (o:aH) (j b v a n:Nat) (l:List Ev):aH:=⟨1,j,b,v,a,o.events.length,(l.drop a).take n,[],[],[],0,0,⟨#[]⟩⟩
structure Sc.fine (s:Sc):Prop where
 sm:s.small
 sh: ∀b∈s.bars,b.short
structure aH.fine (o:aH):Prop where
 ev: ∀e∈o.events,e.small
 evl:o.events.length<=400000
 ba: ∀b∈o.bars,b.short/\b.ok
 bal:o.bars.length<=400000
 ce: ∀l∈o.cells,l.length<=400000/\ ∀c∈l,c.length<=1000000/\ ∀v∈c,v.small
 cel:o.cells.length<=1000000
 dy: ∀l∈o.dyns,l.length<=400000/\ ∀d∈l,d.length<=1000000/\ ∀t∈d,t.at_.fits
 dyl:o.dyns.length<=1000000
 at_:I64 o.at_
 fr:I64 o.bar
theorem Ev.small.sh {e:Ev} (h:e.small):e.short:=⟨h.1,h.2.1,h.2.2⟩
theorem Vo.small.sh {v:Vo} (h:v.small):v.short:=⟨h.1,fun e he=>(h.2 e he).sh⟩
theorem cnt_le {Φ:CF} (hz: ∀c,Φ.sz c<=1+c.length): ∀l:List (List Vo),(∀c∈l,c.length<=4)->cnt Φ l<=l.length*5
 |[],_=>by simp [cnt]
 |c::l,h=>by
  have h1:=hz c
  have h2:=h c (by simp)
  have:=cnt_le hz l fun x hx=>h x (by simp [hx])
  simp only[cnt,List.length_cons];omega
theorem aA9 {Φ:oK} (hz: ∀c,Φ.sz c<=1+c.length): ∀ps:List Pa,(∀p∈ps,p.cells.length<=100/\ ∀c∈p.cells,c.length<=4)->fM Φ ps<=ps.length*500
 |[],_=>by simp [fM]
 |p::ps,h=>by
  obtain⟨h1,h2⟩:=h p (by simp)
  have h3:=cnt_le (Φ:=Φ.toCF) hz p.cells h2
  have:=aA9 hz ps fun x hx=>h x (by simp [hx])
  simp only[fM,List.length_cons];omega
theorem uM {Φ:oK} (hz: ∀c,Φ.sz c<=1+c.length) {s:Sc} (hr:Right s) (hs:s.fine):s.goodU Φ:=by
 have hg:=Lu hr hs.sm fun b hb=>(hs.sh b hb).e
 have hb0:=hr.b0
 have hb1:=hr.b1
 have hp1:=hr.p1
 have hcl: ∀p∈s.parts,p.cells.length<=100/\ ∀c∈p.cells,c.length<=4:=fun p hp=>⟨by have:=(hr.len p hp).1;omega,fun c hc=>(hr.cell p hp c hc).2⟩
 refine⟨hr.p0,by omega,fun p hp=>⟨hg.pa p hp,by have:=(hr.len p hp).2;omega,fun c hc=>by have:=(hr.cell p hp c hc).2;omega,?_⟩,?_,hr.b0,by omega,hs.sh⟩
 ·obtain⟨h1,h2⟩:=hcl p hp
  have:=cnt_le (Φ:=Φ.toCF) hz p.cells h2
  omega
 ·have:=aA9 (Φ:=Φ) hz s.parts hcl
  omega
theorem sz_E: ∀c,dJ.sz c<=1+c.length:=fun c=>by show 1+c.length<=1+c.length;omega
theorem sz_V: ∀c,fU.sz c<=1+c.length:=fun c=>by show 1<=1+c.length;omega
theorem aBa: ∀c,pW.sz c<=1+c.length:=fun c=>by show 0<=1+c.length;omega
theorem aSq {s:Sc} (hr:Right s):tV s.parts:=by
 have hb1:=hr.b1
 have hp1:=hr.p1
 refine⟨by omega,?_⟩
 have:=aA9 (Φ:=dJ) sz_E s.parts fun p hp=>⟨by have:=(hr.len p hp).1;omega,fun c hc=>(hr.cell p hp c hc).2⟩
 omega
theorem aL3 (s:Sc) (o:aH) (hk:o.kind=1) (hs:s.small) (hg:s.good) (hchk:s.checkR.2=0) (j0 b0 v0 a n:Nat) (hj:j0<s.parts.length) (hbb:b0<s.bars.length) (hb0:b0< (s.parts.getD j0 pa0).cells.length) (hv0:v0< ((s.parts.getD j0 pa0).cells.getD b0 []).length)
  (hp:o.part=(j0:Nat)) (hq:o.bar=(b0:Nat)) (hv:o.voice=(v0:Nat)) (ha:o.at_=(a:Nat)) (hn:o.count=(n:Nat))
  (vo:Vo) (hvo:((s.parts.getD j0 pa0).cells.getD b0 []).getD v0 ⟨[]⟩=vo) (han:a+n<=vo.l.length) (hll:vo.l.length<=1000000) (hol:o.events.length<=1000000) (hos: ∀e∈o.events,e.short) (hsum:vo.l.length+o.events.length+1<=1000000)
  (hts:(kW s j0 b0 v0 (fZ vo.l a n o.events)).small):PC Tryz.prog gl 9 [s.av,o.av] (fun v=>v=uY (kW s j0 b0 v0 (fZ vo.l a n o.events)) (Bh o j0 b0 v0 a n vo.l).av):=by
 by_cases htc:(kW s j0 b0 v0 (fZ vo.l a n o.events)).checkR.2=0
 ·rw[uY,if_pos htc]
  refine PC.of_ownT (sty:=fun k=>k==2) (aM1 s o hk hs hg hchk j0 b0 v0 a n hj hbb hb0 hv0 hp hq hv ha hn vo hvo han hll hol hos hsum hts htc) 5 ?_
  have e1:=Jn (s:=s) (b0:=b0) (v0:=v0) (l:=fZ vo.l a n o.events) hj
  have e2:=Jo (v0:=v0) (l:=fZ vo.l a n o.events) hb0
  have h1:=aJ7 (sty:=fun k=>k==2) (hp:=hget (hC [(0,aZ (lC 1 s.parts j0) s.parts.length),(1,aZ (jG 2 (s.parts.getD j0 pa0).cells b0) (s.parts.getD j0 pa0).cells.length),(2,aZ (jU 3 (((s.parts.getD j0 pa0).cells.getD b0 []).set v0 ⟨fZ vo.l a n o.events⟩) v0) ((s.parts.getD j0 pa0).cells.getD b0 []).length),(3,(fZ vo.l a n o.events).flatMap Ev.cells)])) (d:=0) (kp:=0) (qc:=1) (qv:=2) (qe:=3)
   (kW s j0 b0 v0 (fZ vo.l a n o.events)) j0 b0 v0 (by rw[zG];exact hj) (by rw[e1,Hy];exact hb0) (by rw[e1,e2,List.length_set];exact hv0) rfl rfl
   (by rw[zG,aF5 hj];simp [hC,hget]) (by rw[e1,Hy,aDd hb0];simp [hC,hget])
   (by rw[e1,e2,List.length_set];simp [hC,hget]) (by rw[e1,e2,iW hv0];simp [hC,hget])
  rw[zG] at h1
  simp only[List.map_cons,List.map_nil]
  have h1':AV.nowS (fun k=>k==2) (hget (hC [(0,aZ (lC 1 s.parts j0) s.parts.length),(1,aZ (jG 2 (s.parts.getD j0 pa0).cells b0) (s.parts.getD j0 pa0).cells.length),(2,aZ (jU 3 (((s.parts.getD j0 pa0).cells.getD b0 []).set v0 ⟨fZ vo.l a n o.events⟩) v0) ((s.parts.getD j0 pa0).cells.getD b0 []).length),(3,(fZ vo.l a n o.events).flatMap Ev.cells)])) 5 (.agg [.str s.title,.sl 14 (s.bars.map Ba.av) .none,.msl 0 0 s.parts.length 5])=(kW s j0 b0 v0 (fZ vo.l a n o.events)).av:=h1
  rw[h1']
  rfl
 ·rw[uY,if_neg htc]
  exact aHc s o hk hs hg hchk j0 b0 v0 a n hj hbb hb0 hv0 hp hq hv ha hn vo hvo han hll hol hos hsum hts htc
theorem aMa (s:Sc) (o:aH) (hs:s.small) (hg:s.goodU pW) (hchk:s.checkR.2=0) (hk: ∀n:Nat,1<=n->n<=9->o.kind≠(n:Int)):PC Tryz.prog gl 9 [s.av,o.av] (fun v=>v=errR 90):=by
 have hown:=aI8 s hg
 have hT:=sW s hg
 have hhi:=hg.hi
 rw[scC] at hown
 obtain⟨Z,hZ⟩: ∃Z,lW pW s=Z:=⟨_,rfl⟩
 have hZ':hC (hup 20 (scT pW s))=Z:=hZ
 rw[hZ] at hT
 have z1:=gY (hT.lo 15 (by omega))
 have z2:=gY (hT.lo 18 (by omega))
 have z3:=gY (hT.hi 2000021 (by omega))
 have k1:(o.kind==(1:Int))=false:=by have:=hk 1 (by omega) (by omega);simpa using this
 have k2:(o.kind==(2:Int))=false:=by have:=hk 2 (by omega) (by omega);simpa using this
 have k3:(o.kind==(3:Int))=false:=by have:=hk 3 (by omega) (by omega);simpa using this
 have k4:(o.kind==(4:Int))=false:=by have:=hk 4 (by omega) (by omega);simpa using this
 have k5:(o.kind==(5:Int))=false:=by have:=hk 5 (by omega) (by omega);simpa using this
 have k6:(o.kind==(6:Int))=false:=by have:=hk 6 (by omega) (by omega);simpa using this
 have k7:(o.kind==(7:Int))=false:=by have:=hk 7 (by omega) (by omega);simpa using this
 have k8:(o.kind==(8:Int))=false:=by have:=hk 8 (by omega) (by omega);simpa using this
 have k9:(o.kind==(9:Int))=false:=by have:=hk 9 (by omega) (by omega);simpa using this
 clear hk
 (refine PC.introT 2 mix names (fn:=Tryz.f9) Tryz.func9 rfl fun F hF hro W=>?_;simp only[Tryz.ntmps9,Tryz.results9,aJ,Nat.reduceAdd,Nat.reduceSub])
 repeat' (first
  |simp -implicitDefEqProofs only[↓reduceIte,aA,aC,facts,Nat.reduceAdd,Nat.reduceEqDiff,Nat.reduceLeDiff,Int.reduceBEq,Int.reduceBNe,nS,wW,wX,uH,rE,yV,AV.cells,AV.one,aH.av,Sc.av,pR,qV,hchk,fV,eF,Yx,Yd,nV,eX,aK,bF,aU,aV,aW, *]
  |((with_reducible refine dG 16 ?_);refine kR hF hro hown (rfl) ?_)
  |with_reducible refine kV ?_
  |((with_reducible refine aO ?_);refine bM (by decide+kernel) ?_)
  |((with_reducible refine dP ?_ ?_);· decide+kernel)
  |((with_reducible refine aS 15 ?_);refine PC.useZ hF (lT s hs) (rfl) fun v hv=>?_;subst hv))
 exact⟨_,vC,6,rfl,rfl⟩
def Iy:Ba:=⟨⟨0,0,[]⟩,⟨0,false⟩,⟨false,0,[],false,false,false,false,0⟩,[]⟩
def aH.pb (o:aH) (s:Sc):Prop:=(0<=o.part/\o.part< (s.parts.length:Nat))/\(0<=o.bar/\o.bar< (s.bars.length:Nat))
instance (o:aH) (s:Sc):Decidable (o.pb s):=by unfold aH.pb;infer_instance
def aH.j (o:aH):Nat:=o.part.toNat
def aH.b (o:aH):Nat:=o.bar.toNat
def aH.v (o:aH):Nat:=o.voice.toNat
def aH.a (o:aH):Nat:=o.at_.toNat
def aH.n (o:aH):Nat:=o.count.toNat
def aH.cell (o:aH) (s:Sc):List Vo:=(s.parts.getD o.j pa0).cells.getD o.b []
def aH.vo (o:aH) (s:Sc):List Ev:=((o.cell s).getD o.v ⟨[]⟩).l
abbrev Ans:=Int×Sc×aH
def ans (s:Sc) (o:aH) (e:Int):Ans:=(e,s,o)
def zO (s:Sc) (o:aH):Ans:=if o.pb s/\(0<=o.voice/\o.voice< ((o.cell s).length:Nat))/\(0<=o.at_/\0<=o.count/\o.at_<=((o.vo s).length:Nat)/\o.count<=((o.vo s).length:Nat) - o.at_) then(0,kW s o.j o.b o.v (fZ (o.vo s) o.a o.n o.events),Bh o o.j o.b o.v o.a o.n (o.vo s)) else ans s o 90
def Ap (s:Sc) (o:aH):Ans:=if(0<=o.bar/\o.bar<=(s.bars.length:Nat))/\mM s.parts.length o.bars.length o.cells=true/\mM s.parts.length o.bars.length o.dyns=true then(0,iM s o o.b,Hw o o.b) else ans s o 90
def yH (s:Sc) (o:aH):Ans:=if 0<=o.bar/\0<=o.count/\o.bar<=(s.bars.length:Nat)/\o.count<=(s.bars.length:Nat) - o.bar then(0,jT s o.b o.n,lK s o.b o.n) else ans s o 90
def yI (s:Sc) (o:aH):Ans:=if(0<=o.bar/\o.bar< (s.bars.length:Nat))/\o.bars.length=1 then(0,uC s o.b (o.bars.getD 0 Iy),⟨4,0,o.b,0,0,0,[],[s.bars.getD o.b Iy],[],[],0,0,⟨#[]⟩⟩) else ans s o 90
def yJ (s:Sc) (o:aH):Ans:=if o.pb s/\o.dyns.length=1/\(o.dyns.getD 0 []).length=1 then(0,Ep s o.j o.b ((o.dyns.getD 0 []).getD 0 []),Rf s o.j o.b) else ans s o 90
def xJ (s:Sc) (o:aH):Ans:=if o.pb s/\(0<=o.voice/\o.voice<=((o.cell s).length:Nat))/\o.cells.length=1/\(o.cells.getD 0 []).length=1/\((o.cells.getD 0 []).getD 0 []).length=1 then(0,pM s o.j o.b o.v (((o.cells.getD 0 []).getD 0 []).getD 0 ⟨[]⟩),Oa o.j o.b o.v) else ans s o 90
def sU (s:Sc) (o:aH):Ans:=if o.pb s/\(0<=o.voice/\o.voice< ((o.cell s).length:Nat)) then(0,nK s o.j o.b o.v,Kz o.j o.b o.v ((o.cell s).getD o.v ⟨[]⟩)) else ans s o 90
def zQ (s:Sc) (o:aH):Ans:=
  if o.upOk s.parts.length=true then
    (if 0<=o.part then(eY o.steps o.halves (s.parts.getD o.j pa0).cells,qO s o.j o.steps o.halves,oW o.j o.steps o.halves)
     else(rJ s o.steps o.halves,qN s o.steps o.halves,oW (-1) o.steps o.halves))
  else ans s o 90
def gG (s:Sc) (o:aH):Ans:=
 if o.kind=1 then zO s o else if o.kind=2 then Ap s o else if o.kind=3 then yH s o else if o.kind=4 then yI s o else if o.kind=5 then yJ s o
 else if o.kind=6 then xJ s o else if o.kind=7 then sU s o else if o.kind=8 then zQ s o else if o.kind=9 then(0,Mc s o,Vx s) else ans s o 90
def dA (s:Sc) (o:aH):Ans:=
 if s.checkR.2=0 then(if(gG s o).1=0 then((gG s o).2.1.checkR.2,(gG s o).2) else gG s o) else ans s o s.checkR.2
def sV (r:Ans):AV:=if r.1=0 then .tup [r.2.1.av,r.2.2.av,.int .i64 0] else errR r.1
theorem Ia {α:Type} {l es:List α} {a:Nat} {x:α} (h:x∈insL l es a):x∈l\/x∈es:=by
 simp only[insL,List.mem_append] at h
 rcases h with(h|h)|h
 ·exact .inl (List.mem_of_mem_take h)
 ·exact .inr h
 ·exact .inl (List.mem_of_mem_drop h)
theorem Ib {α:Type} {l:List α} {a d:Nat} {x:α} (h:x∈gJ l a d):x∈l:=by
 simp only[gJ,List.mem_append] at h
 rcases h with h|h
 ·exact List.mem_of_mem_take h
 ·exact List.mem_of_mem_drop h
theorem Qn {α:Type} {l:List α} {a d:Nat} {x:α} (h:x∈jO a d l):x∈l:=List.mem_of_mem_drop (List.mem_of_mem_take h)
theorem getD_mem {α:Type} {l:List α} {i:Nat} {d:α} (h:i<l.length):l.getD i d∈l:=by rw[getD_at h];exact List.getElem_mem h
theorem getD_nil {α:Type} {l:List (List α)} {i:Nat} {x:α} (h:x∈l.getD i []):l.getD i []∈l:=by
 by_cases hi:i<l.length
 ·exact getD_mem hi
 ·rw[List.getD_eq_getElem?_getD,List.getElem?_eq_none (by omega)] at h;cases h
theorem aAo {g:Nat->Pa->Pa} {ps:List Pa} {q:Pa} (h:q∈ps.mapIdx g): ∃j,∃hj:j<ps.length,q=g j ps[j]:=by
 obtain⟨j,hj,rfl⟩:=List.mem_iff_getElem.1 h
 rw[List.length_mapIdx] at hj
 exact⟨j,hj,List.getElem_mapIdx ..⟩
theorem Un {s:Sc} {o:aH} {b:Nat} (hs:s.small) (ho:o.fine) (hb:b<=s.bars.length) (hn:s.bars.length<=400000):(iM s o b).small:=by
 refine⟨fun x hx=>?_,fun q hq=>?_,?_,?_⟩
 ·rcases Ia hx with h|h
  ·exact hs.bars x h
  ·exact(ho.ba x h).2
 ·obtain⟨j,hj,rfl⟩:=aAo hq
  have hp:=hs.parts _ (List.getElem_mem hj)
  refine⟨fun c hc=>?_,fun d hd=>?_⟩
  ·rcases Ia hc with h|h
   ·exact hp.voices c h
   ·have:=(ho.ce _ (getD_nil h)).2 c h
    exact this
  ·rcases Ia hd with h|h
   ·exact hp.dyns d h
   ·exact(ho.dy _ (getD_nil h)).2 d h
 ·show(insL s.bars o.bars b).length<=1000000
  rw[rU hb];have:=ho.bal;omega
 ·show(s.parts.mapIdx _).length<=1000000
  rw[List.length_mapIdx];exact hs.nparts
theorem Rn {s:Sc} {b c:Nat} (hs:s.small) (hb:b+c<=s.bars.length):(jT s b c).small:=by
 refine⟨fun x hx=>hs.bars x (Ib hx),fun q hq=>?_,?_,?_⟩
 ·obtain⟨j,hj,rfl⟩:=aAo hq
  have hp:=hs.parts _ (List.getElem_mem hj)
  exact⟨fun c hc=>hp.voices c (Ib hc),fun d hd=>hp.dyns d (Ib hd)⟩
 ·show(gJ s.bars b c).length<=1000000
  rw[yN hb];have:=hs.nbars;omega
 ·show(s.parts.mapIdx _).length<=1000000
  rw[List.length_mapIdx];exact hs.nparts
theorem out_ok {s:Sc} {o:aH} (h:s.checkR.2=0) {t:Sc} {b:aH} (hd:gG s o=(0,t,b)):sV (dA s o)=uY t b.av:=by
 rw[dA,if_pos h,hd];rfl
theorem pO {s:Sc} {o:aH} (h:s.checkR.2=0) {e:Int} (he:e≠0) {r:Sc×aH} (hd:gG s o=(e,r)):sV (dA s o)=errR e:=by
 rw[dA,if_pos h,hd,if_neg he,sV,if_neg he]
theorem lN {a:Int} (h:0<=a):a=((a.toNat:Nat):Int):=by omega
theorem Nv {α:Type} {l:List α} {d:α} (h:l.length=1):l=[l.getD 0 d]:=by
 match l,h with
 |[x],_=>rfl
section
variable (s:Sc) (o:aH) (hs:s.fine) (ho:o.fine) (hchk:s.checkR.2=0)
include hs ho hchk
theorem all1 (hk:o.kind=1):PC Tryz.prog gl 9 [s.av,o.av] (fun v=>v=sV (dA s o)):=by
 have hr:=mO hchk
 have hg:=Lu hr hs.sm fun b hb=>(hs.sh b hb).e
 have hd:gG s o=zO s o:=by simp [gG,hk]
 by_cases h1:o.pb s
 rotate_left
 ·rw[pO hchk (e:=90) (by decide) (r:=(s,o)) (by rw[hd,zO,if_neg (fun h=>h1 h.1)];rfl)]
  by_cases h2:0<=o.part/\o.part< (s.parts.length:Nat)
  ·exact aPa s o hk hs.sm hg hchk h2 fun h3=>h1 ⟨h2,h3⟩
  ·exact aO9 s o hk hs.sm hg hchk h2
 obtain⟨⟨p0,p1⟩,b0,b1⟩:=h1
 have hj:o.j<s.parts.length:=by simp only[aH.j];omega
 have hb:o.b<s.bars.length:=by simp only[aH.b];omega
 have hm:=getD_mem (d:=pa0) hj
 have hcl:=(hr.len _ hm).1
 have hb0:o.b< (s.parts.getD o.j pa0).cells.length:=by omega
 have hp:o.part=((o.j:Nat):Int):=lN p0
 have hq:o.bar=((o.b:Nat):Int):=lN b0
 have hcm:o.cell s∈(s.parts.getD o.j pa0).cells:=getD_mem hb0
 by_cases h2:0<=o.voice/\o.voice< ((o.cell s).length:Nat)
 rotate_left
 ·rw[pO hchk (e:=90) (by decide) (r:=(s,o)) (by rw[hd,zO,if_neg (fun h=>h2 h.2.1)];rfl)]
  exact aPb s o hk hs.sm hg hchk o.j o.b hj hb hb0 hp hq h2
 have hv:o.voice=((o.v:Nat):Int):=lN h2.1
 have hv0:o.v< (o.cell s).length:=by simp only[aH.v];omega
 have hvm:(o.cell s).getD o.v ⟨[]⟩∈o.cell s:=getD_mem hv0
 have hvl:(o.vo s).length<=64:=(hr.vo _ hm _ hcm _ hvm).2
 have hvs:Vo.small ((o.cell s).getD o.v ⟨[]⟩):=((hs.sm.parts _ hm).voices _ hcm).2 _ hvm
 by_cases h3:0<=o.at_/\0<=o.count/\o.at_<=((o.vo s).length:Nat)/\o.count<=((o.vo s).length:Nat) - o.at_
 rotate_left
 ·rw[pO hchk (e:=90) (by decide) (r:=(s,o)) (by rw[hd,zO,if_neg (fun h=>h3 h.2.2)];rfl)]
  exact aPc s o hk hs.sm hg hchk o.j o.b o.v hj hb hb0 hv0 hp hq hv h3 (by show(o.vo s).length<=1000000;omega) ho.at_
 have ha:o.at_=((o.a:Nat):Int):=lN h3.1
 have hn:o.count=((o.n:Nat):Int):=lN h3.2.1
 have han:o.a+o.n<=(o.vo s).length:=by omega
 rw[out_ok hchk (t:=kW s o.j o.b o.v (fZ (o.vo s) o.a o.n o.events)) (b:=Bh o o.j o.b o.v o.a o.n (o.vo s)) (by rw[hd,zO,if_pos ⟨⟨⟨p0,p1⟩,b0,b1⟩,h2,h3⟩])]
 have hel:=ho.evl
 refine aL3 s o hk hs.sm hg hchk o.j o.b o.v o.a o.n hj hb hb0 hv0 hp hq hv ha hn ⟨o.vo s⟩ rfl han (by show(o.vo s).length<=1000000;omega) (by omega) (fun e he=>(ho.ev e he).sh) (by show(o.vo s).length+o.events.length+1<=1000000;omega) (aDg hs.sm hj hb0 hv0 ⟨?_,fun e he=>?_⟩)
 ·show(fZ (o.vo s) o.a o.n o.events).length<=1000000
  simp only[fZ,List.length_append,List.length_take,List.length_drop];omega
 ·have he:e∈fZ (o.vo s) o.a o.n o.events:=he
  simp only[fZ,List.mem_append] at he
  rcases he with(h|h)|h
  ·exact hvs.2 e (List.mem_of_mem_take h)
  ·exact ho.ev e h
  ·exact hvs.2 e (List.mem_of_mem_drop h)
theorem all2 (hk:o.kind=2):PC Tryz.prog gl 9 [s.av,o.av] (fun v=>v=sV (dA s o)):=by
 have hr:=mO hchk
 have hg:s.goodU pW:=uM aBa hr hs
 have hd:gG s o=Ap s o:=by simp [gG,hk]
 have hb1:=hr.b1
 have hp1:=hr.p1
 have hnb:=ho.bal
 by_cases h1:0<=o.bar/\o.bar<=(s.bars.length:Nat)
 rotate_left
 ·rw[pO hchk (e:=90) (by decide) (r:=(s,o)) (by rw[hd,Ap,if_neg (fun h=>h1 h.1)];rfl)]
  exact jC s o 2 2 (by decide) hk hs.sm hg hchk _ fun F hF hro W=>aLb s o hk (by omega) (fun h=>h1 ⟨h.1,by omega⟩) hF hro
 by_cases h2:mM s.parts.length o.bars.length o.cells=true/\mM s.parts.length o.bars.length o.dyns=true
 rotate_left
 ·rw[pO hchk (e:=90) (by decide) (r:=(s,o)) (by rw[hd,Ap,if_neg (fun h=>h2 h.2)];rfl)]
  exact jC s o 2 2 (by decide) hk hs.sm hg hchk _ fun F hF hro W=>aLc s o hk (by omega) ⟨h1.1,by omega⟩ ho.cel ho.dyl h2 hF hro
 rw[out_ok hchk (t:=iM s o o.b) (b:=Hw o o.b) (by rw[hd,Ap,if_pos ⟨h1,h2⟩])]
 have HB:o.bar=((o.b:Nat):Int):=lN h1.1
 have hb:o.b<=s.bars.length:=by omega
 have hts:=Un hs.sm ho hb (by omega)
 have hce: ∀c∈o.cells,∀x∈c,wY x:=fun c hc x hx=>⟨((ho.ce c hc).2 x hx).1,fun v hv=>(((ho.ce c hc).2 x hx).2 v hv).sh⟩
 have hdy: ∀d∈o.dyns,∀x∈d,x.length<=1000000:=fun d hd x hx=>((ho.dy d hd).2 x hx).1
 refine jC s o 2 2 (by decide) hk hs.sm hg hchk _ fun F hF hro W=>?_
 exact aRi s o hk hs.sm hg hr.len o.b hb HB (fun x hx=>(ho.ba x hx).1) (by omega) hnb h2.1 h2.2 hce hdy hts hF hro
theorem all3 (hk:o.kind=3):PC Tryz.prog gl 9 [s.av,o.av] (fun v=>v=sV (dA s o)):=by
 have hr:=mO hchk
 have hg:s.goodU pW:=uM aBa hr hs
 have hd:gG s o=yH s o:=by simp [gG,hk]
 have hb1:=hr.b1
 by_cases h1:0<=o.bar/\0<=o.count/\o.bar<=(s.bars.length:Nat)/\o.count<=(s.bars.length:Nat) - o.bar
 rotate_left
 ·rw[pO hchk (e:=90) (by decide) (r:=(s,o)) (by rw[hd,yH,if_neg h1];rfl)]
  exact jC s o 3 3 (by decide) hk hs.sm hg hchk _ fun F hF hro W=>aLd s o hk (by omega) ho.fr h1 hF hro
 rw[out_ok hchk (t:=jT s o.b o.n) (b:=lK s o.b o.n) (by rw[hd,yH,if_pos h1])]
 have HB:o.bar=((o.b:Nat):Int):=lN h1.1
 have HC:o.count=((o.n:Nat):Int):=lN h1.2.1
 have hb:o.b+o.n<=s.bars.length:=by omega
 have hts:=Rn hs.sm hb
 refine jC s o 3 3 (by decide) hk hs.sm hg hchk _ fun F hF hro W=>?_
 exact aMo s o hk hs.sm hg hr.len o.b o.n hb HB HC (by omega) hts hF hro
theorem all4 (hk:o.kind=4):PC Tryz.prog gl 9 [s.av,o.av] (fun v=>v=sV (dA s o)):=by
 have hr:=mO hchk
 have hg:s.goodU pW:=uM aBa hr hs
 have hd:gG s o=yI s o:=by simp [gG,hk]
 by_cases h1:(0<=o.bar/\o.bar< (s.bars.length:Nat))/\o.bars.length=1
 rotate_left
 ·rw[pO hchk (e:=90) (by decide) (r:=(s,o)) (by rw[hd,yI,if_neg h1];rfl)]
  exact jC s o 4 4 (by decide) hk hs.sm hg hchk _ fun F hF hro W=>aWe s o hk hg h1 hF hro
 have HB:o.bar=((o.b:Nat):Int):=lN h1.1.1
 have hb:o.b<s.bars.length:=by have:=h1.1.2;omega
 have hx:o.bars=[o.bars.getD 0 Iy]:=Nv h1.2
 have hxm:o.bars.getD 0 Iy∈o.bars:=getD_mem (by omega)
 rw[out_ok hchk (t:=uC s o.b (o.bars.getD 0 Iy)) (b:=aEp s o.b hb) (by rw[hd,yI,if_pos h1,aEp,getD_at hb])]
 exact jC s o 4 4 (by decide) hk hs.sm hg hchk _ fun F hF hro W=>aRw s o hk hs.sm hg o.b hb HB _ hx (ho.ba _ hxm).1 (ho.ba _ hxm).2 hF hro
theorem all5 (hk:o.kind=5):PC Tryz.prog gl 9 [s.av,o.av] (fun v=>v=sV (dA s o)):=by
 have hr:=mO hchk
 have hg:s.goodU pW:=uM aBa hr hs
 have hd:gG s o=yJ s o:=by simp [gG,hk]
 have hl: ∀j (h:j<s.parts.length),s.parts[j].cells.length=s.bars.length:=fun j h=>(hr.len _ (List.getElem_mem h)).1
 by_cases h1:o.pb s/\o.dyns.length=1/\(o.dyns.getD 0 []).length=1
 rotate_left
 ·rw[pO hchk (e:=90) (by decide) (r:=(s,o)) (by rw[hd,yJ,if_neg h1];rfl)]
  exact jC s o 5 5 (by decide) hk hs.sm hg hchk _ fun F hF hro W=>aUq s o hk hg (fun⟨h2,h3,x,hx⟩=>h1 ⟨⟨h2,h3⟩,by rw[hx];exact⟨rfl,rfl⟩⟩) hl hF hro
 obtain⟨⟨⟨p0,p1⟩,b0,b1⟩,h2,h3⟩:=h1
 have hj:o.j<s.parts.length:=by simp only[aH.j];omega
 have hb:o.b<s.bars.length:=by simp only[aH.b];omega
 have hx:o.dyns=[[(o.dyns.getD 0 []).getD 0 []]]:=by
  conv=>lhs;rw[Nv (d:=[]) h2]
  conv=>lhs;rw[Nv (d:=[]) h3]
 have hm1:o.dyns.getD 0 []∈o.dyns:=getD_mem (by omega)
 have hm2:(o.dyns.getD 0 []).getD 0 []∈o.dyns.getD 0 []:=getD_mem (by omega)
 have hy:=(ho.dy _ hm1).2 _ hm2
 rw[out_ok hchk (t:=Ep s o.j o.b ((o.dyns.getD 0 []).getD 0 [])) (b:=Rf s o.j o.b) (by rw[hd,yJ,if_pos ⟨⟨⟨p0,p1⟩,b0,b1⟩,h2,h3⟩])]
 exact jC s o 5 5 (by decide) hk hs.sm hg hchk _ fun F hF hro W=>aPl s o hk hs.sm hg o.j o.b hj hb (lN p0) (lN b0) (hl _ hj) (hr.len _ (List.getElem_mem hj)).2 _ hx hy.1 hy.2 hF hro
theorem all6 (hk:o.kind=6):PC Tryz.prog gl 9 [s.av,o.av] (fun v=>v=sV (dA s o)):=by
 have hr:=mO hchk
 have hg:s.goodU fU:=uM sz_V hr hs
 have hd:gG s o=xJ s o:=by simp [gG,hk]
 by_cases h1:o.pb s
 rotate_left
 ·rw[pO hchk (e:=90) (by decide) (r:=(s,o)) (by rw[hd,xJ,if_neg (fun h=>h1 h.1)];rfl)]
  exact jC s o 6 6 (by decide) hk hs.sm hg hchk _ fun F hF hro W=>aH4 s o hk h1 hF hro
 obtain⟨⟨p0,p1⟩,b0,b1⟩:=h1
 have hj:o.j<s.parts.length:=by simp only[aH.j];omega
 have hb:o.b<s.bars.length:=by simp only[aH.b];omega
 have hc1:=(hr.len _ (List.getElem_mem hj)).1
 have hce:s.parts[o.j].cells[o.b]'(by omega)=o.cell s:=by rw[aH.cell,getD_at hj,getD_at (by omega)]
 have hcl:=(hr.cell _ (List.getElem_mem hj) _ (List.getElem_mem (show o.b<s.parts[o.j].cells.length by omega))).2
 rw[hce] at hcl
 by_cases h2:(0<=o.voice/\o.voice<=((o.cell s).length:Nat))/\o.cells.length=1/\(o.cells.getD 0 []).length=1/\((o.cells.getD 0 []).getD 0 []).length=1
 rotate_left
 ·rw[pO hchk (e:=90) (by decide) (r:=(s,o)) (by rw[hd,xJ,if_neg (fun h=>h2 h.2)];rfl)]
  exact jC s o 6 6 (by decide) hk hs.sm hg hchk _ fun F hF hro W=>aLw s o hk hg o.j o.b hj hb (lN p0) (lN b0) hc1 (o.cell s) hce (by omega) (fun⟨h3,x,hx⟩=>h2 ⟨h3,by rw[hx];exact⟨rfl,rfl,rfl⟩⟩) hF hro
 obtain⟨⟨v0,v1⟩,h3,h4,h5⟩:=h2
 have hv:o.v<=(o.cell s).length:=by simp only[aH.v];omega
 have hx:o.cells=[[[((o.cells.getD 0 []).getD 0 []).getD 0 ⟨[]⟩]]]:=by
  conv=>lhs;rw[Nv (d:=[]) h3]
  conv=>lhs;rw[Nv (d:=[]) h4]
  conv=>lhs;rw[Nv (d:=⟨[]⟩) h5]
 have hm1:o.cells.getD 0 []∈o.cells:=getD_mem (by omega)
 have hm2:(o.cells.getD 0 []).getD 0 []∈o.cells.getD 0 []:=getD_mem (by omega)
 have hm3:((o.cells.getD 0 []).getD 0 []).getD 0 ⟨[]⟩∈(o.cells.getD 0 []).getD 0 []:=getD_mem (by omega)
 have hy:=((ho.ce _ hm1).2 _ hm2).2 _ hm3
 rw[out_ok hchk (t:=pM s o.j o.b o.v (((o.cells.getD 0 []).getD 0 []).getD 0 ⟨[]⟩)) (b:=Oa o.j o.b o.v) (by rw[hd,xJ,if_pos ⟨⟨⟨p0,p1⟩,b0,b1⟩,⟨v0,v1⟩,h3,h4,h5⟩])]
 exact jC s o 6 6 (by decide) hk hs.sm hg hchk _ fun F hF hro W=>aGo s o hk hs.sm hg o.j o.b o.v hj hb (lN p0) (lN b0) (lN v0) hc1 (o.cell s) hce hv (by omega) _ hx hy hy.sh hF hro
theorem all7 (hk:o.kind=7):PC Tryz.prog gl 9 [s.av,o.av] (fun v=>v=sV (dA s o)):=by
 have _:=ho
 have hr:=mO hchk
 have hg:s.goodU fU:=uM sz_V hr hs
 have hd:gG s o=sU s o:=by simp [gG,hk]
 by_cases h1:o.pb s
 rotate_left
 ·rw[pO hchk (e:=90) (by decide) (r:=(s,o)) (by rw[hd,sU,if_neg (fun h=>h1 h.1)];rfl)]
  exact jC s o 7 7 (by decide) hk hs.sm hg hchk _ fun F hF hro W=>aGx s o hk h1 hF hro
 obtain⟨⟨p0,p1⟩,b0,b1⟩:=h1
 have hj:o.j<s.parts.length:=by simp only[aH.j];omega
 have hb:o.b<s.bars.length:=by simp only[aH.b];omega
 have hc1:=(hr.len _ (List.getElem_mem hj)).1
 have hce:s.parts[o.j].cells[o.b]'(by omega)=o.cell s:=by rw[aH.cell,getD_at hj,getD_at (by omega)]
 have hcl:=(hr.cell _ (List.getElem_mem hj) _ (List.getElem_mem (show o.b<s.parts[o.j].cells.length by omega))).2
 rw[hce] at hcl
 by_cases h2:0<=o.voice/\o.voice< ((o.cell s).length:Nat)
 rotate_left
 ·rw[pO hchk (e:=90) (by decide) (r:=(s,o)) (by rw[hd,sU,if_neg (fun h=>h2 h.2)];rfl)]
  exact jC s o 7 7 (by decide) hk hs.sm hg hchk _ fun F hF hro W=>aH5 s o hk hg o.j o.b hj hb (lN p0) (lN b0) hc1 (o.cell s) hce (by omega) h2 hF hro
 have hv:o.v< (o.cell s).length:=by simp only[aH.v];omega
 rw[out_ok hchk (t:=nK s o.j o.b o.v) (b:=Kz o.j o.b o.v ((o.cell s).getD o.v ⟨[]⟩)) (by rw[hd,sU,if_pos ⟨⟨⟨p0,p1⟩,b0,b1⟩,h2⟩])]
 exact jC s o 7 7 (by decide) hk hs.sm hg hchk _ fun F hF hro W=>aD1 s o hk hs.sm hg o.j o.b o.v hj hb (lN p0) (lN b0) (lN h2.1) hc1 (o.cell s) hce hv (by omega) _ (getD_at hv).symm hF hro
theorem all8 (hk:o.kind=8):PC Tryz.prog gl 9 [s.av,o.av] (fun v=>v=sV (dA s o)):=by
 have _:=ho
 have hr:=mO hchk
 have hg:s.goodU dJ:=uM sz_E hr hs
 have hok:=aSq hr
 have hb1:=hr.b1
 have hd:gG s o=zQ s o:=by simp [gG,hk]
 by_cases h1:o.upOk s.parts.length=true
 rotate_left
 ·rw[pO hchk (e:=90) (by decide) (r:=(s,o)) (by rw[hd,zQ,if_neg h1];rfl)]
  exact jC s o 8 8 (by decide) hk hs.sm hg hchk _ fun F hF hro W=>up_no s o hk hg (by simpa using h1) hF hro
 rw[zQ,if_pos h1] at hd
 have h2:=h1
 simp only[aH.upOk,Bool.and_eq_true,decide_eq_true_eq] at h2
 obtain⟨u1,⟨u2,u3⟩,u4,u5⟩:=h2
 by_cases h3:0<=o.part
 ·rw[if_pos h3] at hd
  have hj:o.j<s.parts.length:=by simp only[aH.j];omega
  have hcl:=(hr.len _ (List.getElem_mem hj)).1
  have hgd:s.parts.getD o.j pa0=s.parts[o.j]:=getD_at hj
  rw[hgd] at hd
  refine jC s o 8 8 (by decide) hk hs.sm hg hchk _ fun F hF hro W=>?_
  have:=aV3 s o hk hs.sm hg hok o.j hj (lN h3) s.parts[o.j].cells rfl (by omega) ⟨u2,u3,u4,u5⟩ hF hro (W:=W)
  by_cases he:eY o.steps o.halves s.parts[o.j].cells=0
  ·rw[he] at hd
   rw[if_pos he] at this
   rw[out_ok hchk hd];exact this
  ·rw[if_neg he] at this
   rw[pO hchk he hd];exact this
 ·rw[if_neg h3] at hd
  refine jC s o 8 8 (by decide) hk hs.sm hg hchk _ fun F hF hro W=>?_
  have:=aVy s o hk hs.sm hg hok (by omega) (fun p hp=>by have:=(hr.len p hp).1;omega) ⟨u2,u3,u4,u5⟩ hF hro (W:=W)
  by_cases he:rJ s o.steps o.halves=0
  ·rw[he] at hd
   rw[if_pos he] at this
   rw[out_ok hchk hd];exact this
  ·rw[if_neg he] at this
   rw[pO hchk he hd];exact this
theorem all9 (hk:o.kind=9):PC Tryz.prog gl 9 [s.av,o.av] (fun v=>v=sV (dA s o)):=by
 have _:=ho
 have hr:=mO hchk
 have hg:s.goodU pW:=uM aBa hr hs
 have hd:gG s o=(0,Mc s o,Vx s):=by simp [gG,hk]
 rw[out_ok hchk hd]
 exact jC s o 9 9 (by decide) hk hs.sm hg hchk _ fun F hF hro W=>aKu s o hk hs.sm hg hF hro
end
theorem aDk (s:Sc) (o:aH) (hs:s.fine) (ho:o.fine):PC Tryz.prog gl 9 [s.av,o.av] (fun v=>v=sV (dA s o)):=by
 by_cases hchk:s.checkR.2=0
 rotate_left
 ·rw[show sV (dA s o)=errR s.checkR.2 by rw[dA,if_neg hchk,sV,ans,if_neg hchk]]
  exact aEa s o hs.sm hchk
 by_cases h1:o.kind=1
 ·exact all1 s o hs ho hchk h1
 by_cases h2:o.kind=2
 ·exact all2 s o hs ho hchk h2
 by_cases h3:o.kind=3
 ·exact all3 s o hs ho hchk h3
 by_cases h4:o.kind=4
 ·exact all4 s o hs ho hchk h4
 by_cases h5:o.kind=5
 ·exact all5 s o hs ho hchk h5
 by_cases h6:o.kind=6
 ·exact all6 s o hs ho hchk h6
 by_cases h7:o.kind=7
 ·exact all7 s o hs ho hchk h7
 by_cases h8:o.kind=8
 ·exact all8 s o hs ho hchk h8
 by_cases h9:o.kind=9
 ·exact all9 s o hs ho hchk h9
 rw[pO hchk (e:=90) (by decide) (r:=(s,o)) (by simp only[gG,h1,h2,h3,h4,h5,h6,h7,h8,h9,if_false];rfl)]
 exact aMa s o hs.sm (uM aBa (mO hchk) hs) hchk fun n hn1 hn2=>by omega
end Go.Proofs.Pv
namespace Go.Proofs.Pv
open Go Go.Proofs
theorem sO:I64 0:=by unfold I64;decide
structure aH.typedB (o:aH):Prop where
 bar:I64 o.bar
 bars: ∀b∈o.bars,b.typed
 dyns: ∀l∈o.dyns,∀d∈l,∀t∈d,t.at_.fits
theorem aR0 {b:Ba} (h:b.fewB=true):b.meter.groups.length<=12/\b.turn.endings.length<=12/\b.tempos.length<=12:=by
 simp only[Ba.fewB,Bool.not_eq_true',Bool.or_eq_false_iff,decide_eq_false_iff_not] at h
 omega
theorem aG6 {c:List Vo} (h:Ji c=true):c.length<=4/\ ∀v∈c,v.l.length<=12/\ ∀e∈v.l,e.small:=by
 simp only[Ji,Bool.and_eq_true,Bool.not_eq_true',decide_eq_false_iff_not,List.all_eq_true] at h
 exact⟨by omega,fun v hv=>Ha (h.2 v hv)⟩
theorem ba_ok {b:Ba} (h:b.fewB=true) (t:b.typed):b.ok:=by
 have:=aR0 h
 exact⟨by omega,t.1,t.2.1,by omega,t.2.2⟩
theorem aPt {b:Ba} (h:b.fewB=true):b.short:=by
 have:=aR0 h
 exact⟨by omega,by omega,by omega⟩
theorem Yw {s:Sc} (ht:s.typed) (h:s.fewB=true):s.fine:=by
 have hf:=aM0 ht h
 refine⟨hf.small,fun b hb=>⟨(hf.small.bars b hb).groups,hf.ends b hb,(hf.small.bars b hb).tempos⟩⟩
theorem aUu {o:aH} (ht:o.typed) (hB:o.typedB) (h:o.fewB=true):o.fine:=by
 simp only[aH.fewB,Bool.and_eq_true,Bool.not_eq_true',decide_eq_false_iff_not,List.all_eq_true] at h
 obtain⟨⟨h1,h2,h3,h4,h5⟩,h6,h7⟩:=h
 obtain⟨b1,b2⟩:=wU h4
 obtain⟨e1,e2⟩:=Ha h5
 refine⟨e2,by omega,fun b hb=>⟨aPt (b2 b hb),ba_ok (b2 b hb) (hB.bars b hb)⟩,by omega,fun l hl=>?_,by omega,fun l hl=>?_,by omega,ht.at_,hB.bar⟩
 ·obtain⟨c1,c2⟩:=wU (h6 l hl)
  refine⟨by omega,fun c hc=>?_⟩
  obtain⟨q1,q2⟩:=aG6 (c2 c hc)
  exact⟨by omega,fun v hv=>⟨by have:=(q2 v hv).1;omega,(q2 v hv).2⟩⟩
 ·obtain⟨c1,c2⟩:=wU (h7 l hl)
  refine⟨by omega,fun d hd=>⟨?_,fun t ht'=>hB.dyns l hl d hd t ht'⟩⟩
  have:=c2 d hd
  simp only[Vw,Bool.not_eq_true',decide_eq_false_iff_not] at this
  omega
theorem aOu {d:Nat} {cs:List AV} (h:okV Tryz.prog (d+5) 56 cs): ∃l:List (List Dy),cs=[dV l]/\ ∀a∈l,∀t∈a,t.at_.fits:=by obtain⟨l,e,q⟩:=aIp h;exact⟨l,e,q⟩
theorem aOv {d:Nat} {cs:List AV} (h:okV Tryz.prog (d+6) 46 cs): ∃l:List (List (List Dy)),cs=[.sl 1 (l.map dV) .none]/\ ∀a∈l,∀x∈a,∀t∈x,t.at_.fits:=by
 obtain⟨rows,rfl,_,hr⟩:=kU Tryz.underlying46 h
 obtain⟨l,rfl,hq⟩:=nY (f:=dV) (Q:=fun a:(List (List Dy))=> ∀x∈a,∀t∈x,t.at_.fits) rows fun r hr'=>by
  obtain⟨c,rfl,hk⟩:=hr r hr'
  obtain⟨a,e1,q1⟩:=aOu hk
  exact⟨a,by rw[e1];simp only[mkRow,ag56,Bool.false_eq_true,if_false];rfl,q1⟩
 exact⟨l,by rw[show Tryz.prog.cellsOf 56=1 from by kernel_rfl],hq⟩
theorem aUa {d:Nat} {cs:List AV} (h:okV Tryz.prog (d+10) 50 cs): ∃a:aH,cs=a.cells13/\a.typed/\a.typedB:=by
 have t0:nR Tryz.prog (okV Tryz.prog (d+9)) [3,44,3,42,22,45,46,48,9] cs:=jB Tryz.underlying50 h
 obtain⟨_,_,rfl,g0,t1⟩:=bG t0
 obtain⟨k,rfl,ik⟩:=iL g0
 obtain⟨_,_,rfl,g1,t2⟩:=bG t1
 obtain⟨p,rfl,qp⟩:=aVo g1
 obtain⟨_,_,rfl,g2,t3⟩:=bG t2
 obtain⟨n,rfl,i_n⟩:=iL g2
 obtain⟨_,_,rfl,g3,t4⟩:=bG t3
 obtain⟨e,rfl,qe⟩:=aIn g3
 obtain⟨_,_,rfl,g4,t5⟩:=bG t4
 obtain⟨b,rfl,qb⟩:=aIq g4
 obtain⟨_,_,rfl,g5,t6⟩:=bG t5
 obtain⟨c,rfl,qc⟩:=aP4 g5
 obtain⟨_,_,rfl,g6,t7⟩:=bG t6
 obtain⟨y,rfl,qy⟩:=aOv g6
 obtain⟨_,_,rfl,g7,t8⟩:=bG t7
 obtain⟨v,rfl,qv⟩:=aVp g7
 obtain⟨_,_,rfl,g8,t9⟩:=bG t8
 obtain⟨t,rfl⟩:=Vt g8
 obtain rfl:=lU t9
 exact⟨⟨k,p.1,p.2.1,p.2.2.1,p.2.2.2,n,e,b,c,y,v.1,v.2,t⟩,rfl,⟨qp.2.2.2,i_n⟩,⟨qp.2.1,qb,qy⟩⟩
end Go.Proofs.Pv
