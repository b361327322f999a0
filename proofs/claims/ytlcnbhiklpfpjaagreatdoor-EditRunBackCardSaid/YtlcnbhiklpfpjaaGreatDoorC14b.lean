/-
Plain laws on edits: what takes an edit back leaves the score that there was, and what takes that back the edited one.
Conditions: none but those that each statement names.
-/
import Derived.Test.YtlcnbhiklpfpjaaGreatDoorC13
import Derived.Test.YtlcnbhiklpfpjaaGreatDoorC14a
import Derived.Test.YtlcnbhiklpfpjaaGreatDoorC12
set_option linter.unusedVariables false
set_option linter.unusedSimpArgs false
set_option maxRecDepth 100000
set_option maxHeartbeats 16000000
namespace Go.Proofs.Pv
open Go Go.Proofs
theorem aOl {l es:List Ev} {a n:Nat} (h:a+n<=l.length):fZ (fZ l a n es) a es.length ((l.drop a).take n)=l:=by
 have h1:(l.take a).length=a:=by rw[List.length_take];omega
 have e1:(fZ l a n es).take a=l.take a:=by rw[fZ,List.append_assoc,List.take_left' h1]
 have e2:(fZ l a n es).drop (a+es.length)=l.drop (a+n):=by rw[fZ,List.drop_left' (by rw[List.length_append,h1])]
 rw[fZ,e1,e2,List.append_assoc,<-List.drop_drop,List.take_append_drop,List.take_append_drop]
theorem aRh {l es:List Ev} {a n:Nat} (h:a+n<=l.length):((fZ l a n es).drop a).take es.length=es:=by
 have h1:(l.take a).length=a:=by rw[List.length_take];omega
 rw[fZ,List.append_assoc,List.drop_left' h1,List.take_left' rfl]
theorem Wi {α:Type} {l es:List α} {b:Nat} (h:b<=l.length):gJ (insL l es b) b es.length=l:=by
 have h1:(l.take b).length=b:=by rw[List.length_take];omega
 have e1:(insL l es b).take b=l.take b:=by rw[insL,List.append_assoc,List.take_left' h1]
 have e2:(insL l es b).drop (b+es.length)=l.drop b:=by rw[insL,List.drop_left' (by rw[List.length_append,h1])]
 rw[gJ,e1,e2,List.take_append_drop]
theorem Wj {α:Type} {l es:List α} {b:Nat} (h:b<=l.length):jO b es.length (insL l es b)=es:=by
 have h1:(l.take b).length=b:=by rw[List.length_take];omega
 rw[jO,insL,List.append_assoc,List.drop_left' h1,List.take_left' rfl]
theorem Wl {α:Type} {l:List α} {b n:Nat} (h:b+n<=l.length):insL (gJ l b n) (jO b n l) b=l:=by
 have h1:(l.take b).length=b:=by rw[List.length_take];omega
 have e1:(gJ l b n).take b=l.take b:=by rw[gJ,List.take_left' h1]
 have e2:(gJ l b n).drop b=l.drop (b+n):=by rw[gJ,List.drop_left' h1]
 rw[insL,e1,e2,jO,List.append_assoc,<-List.drop_drop,List.take_append_drop,List.take_append_drop]
theorem Yj {α:Type} {l:List α} {b n:Nat} (h:b+n<=l.length):(jO b n l).length=n:=by simp only[jO,List.length_take,List.length_drop];omega
theorem yU {α:Type} {l:List α} {i:Nat} {d:α}:l.set i (l.getD i d)=l:=by
 by_cases h:i<l.length
 ·rw[getD_at h,List.set_getElem_self]
 ·rw[List.set_eq_of_length_le (by omega)]
def pX (s:Sc) (j:Nat) (f:Pa->Pa):Sc:= {s with parts:=s.parts.set j (f (s.parts.getD j pa0))}
theorem Qc {s:Sc} {j:Nat} {f:Pa->Pa}:(pX s j f).parts.length=s.parts.length:=List.length_set
theorem Nl {s:Sc} {j:Nat} {f:Pa->Pa} (h:j<s.parts.length):(pX s j f).parts.getD j pa0=f (s.parts.getD j pa0):=iW h
theorem Dj {s:Sc} {j:Nat} {f g:Pa->Pa} (h:j<s.parts.length):pX (pX s j f) j g=pX s j fun p=>g (f p):=by
 have h1:=Nl (f:=f) h
 simp only[pX] at h1 ⊢
 rw[h1,List.set_set]
theorem Dk {s:Sc} {j:Nat} {f:Pa->Pa} (h:f (s.parts.getD j pa0)=s.parts.getD j pa0):pX s j f=s:=by
 rw[pX,h,yU]
theorem aT7 {s:Sc} {j:Nat} {f g:Pa->Pa} (h:f (s.parts.getD j pa0)=g (s.parts.getD j pa0)):pX s j f=pX s j g:=by
 rw[pX,pX,h]
def Cc (s:Sc) (r:Ans):Prop:= ∃o',gG r.2.1 r.2.2=(0,s,o')/\ ∃b',gG s o'=(0,r.2.1,b')
theorem jQ {n:Nat}:((n:Nat):Int).toNat=n:=Int.toNat_natCast n
theorem aSg {s:Sc} {o:aH} (j b v a n:Nat) (hk:o.kind=1) (hp:o.part=(j:Nat)) (hq:o.bar=(b:Nat)) (hv:o.voice=(v:Nat)) (ha:o.at_=(a:Nat)) (hn:o.count=(n:Nat)) (hj:j<s.parts.length) (hb:b<s.bars.length) (hvl:v< ((s.parts.getD j pa0).cells.getD b []).length) {l:List Ev} (hl:(((s.parts.getD j pa0).cells.getD b []).getD v ⟨[]⟩).l=l) (han:a+n<=l.length):
  gG s o=(0,kW s j b v (fZ l a n o.events),Bh o j b v a n l):=by
 have e1:o.j=j:=by rw[aH.j,hp,jQ]
 have e2:o.b=b:=by rw[aH.b,hq,jQ]
 have e3:o.v=v:=by rw[aH.v,hv,jQ]
 have e4:o.a=a:=by rw[aH.a,ha,jQ]
 have e5:o.n=n:=by rw[aH.n,hn,jQ]
 have e6:o.cell s=(s.parts.getD j pa0).cells.getD b []:=by rw[aH.cell,e1,e2]
 have e7:o.vo s=l:=by rw[aH.vo,e6,e3,hl]
 have hd:gG s o=zO s o:=by simp [gG,hk]
 rw[hd,zO,if_pos ⟨⟨⟨by omega,by omega⟩,by omega,by omega⟩,⟨by omega,by rw[e6];omega⟩,by rw[e7];omega⟩,e1,e2,e3,e4,e5,e7]
theorem aSh {s:Sc} {o:aH} (b:Nat) (hk:o.kind=2) (hq:o.bar=(b:Nat)) (hb:b<=s.bars.length) (h1:mM s.parts.length o.bars.length o.cells=true) (h2:mM s.parts.length o.bars.length o.dyns=true):gG s o=(0,iM s o b,Hw o b):=by
 have e2:o.b=b:=by rw[aH.b,hq,jQ]
 have hd:gG s o=Ap s o:=by simp [gG,hk]
 rw[hd,Ap,if_pos ⟨⟨by omega,by omega⟩,h1,h2⟩,e2]
theorem aOm {s:Sc} {o:aH} (b n:Nat) (hk:o.kind=3) (hq:o.bar=(b:Nat)) (hn:o.count=(n:Nat)) (hb:b+n<=s.bars.length):gG s o=(0,jT s b n,lK s b n):=by
 have e2:o.b=b:=by rw[aH.b,hq,jQ]
 have e5:o.n=n:=by rw[aH.n,hn,jQ]
 have hd:gG s o=yH s o:=by simp [gG,hk]
 rw[hd,yH,if_pos ⟨by omega,by omega,by omega,by omega⟩,e2,e5]
theorem aOn {s:Sc} {o:aH} (b:Nat) (x:Ba) (hk:o.kind=4) (hq:o.bar=(b:Nat)) (hb:b<s.bars.length) (hx:o.bars=[x]):gG s o=(0,uC s b x,⟨4,0,b,0,0,0,[],[s.bars.getD b Iy],[],[],0,0,⟨#[]⟩⟩):=by
 have e2:o.b=b:=by rw[aH.b,hq,jQ]
 have hd:gG s o=yI s o:=by simp [gG,hk]
 rw[hd,yI,if_pos ⟨⟨by omega,by omega⟩,by rw[hx];rfl⟩,e2,hx];rfl
theorem aOo {s:Sc} {o:aH} (j b:Nat) (x:List Dy) (hk:o.kind=5) (hp:o.part=(j:Nat)) (hq:o.bar=(b:Nat)) (hj:j<s.parts.length) (hb:b<s.bars.length) (hx:o.dyns=[[x]]):gG s o=(0,Ep s j b x,Rf s j b):=by
 have e1:o.j=j:=by rw[aH.j,hp,jQ]
 have e2:o.b=b:=by rw[aH.b,hq,jQ]
 have hd:gG s o=yJ s o:=by simp [gG,hk]
 rw[hd,yJ,if_pos ⟨⟨⟨by omega,by omega⟩,by omega,by omega⟩,by rw[hx];rfl,by rw[hx];rfl⟩,e1,e2,hx];rfl
theorem aOp {s:Sc} {o:aH} (j b v:Nat) (x:Vo) (hk:o.kind=6) (hp:o.part=(j:Nat)) (hq:o.bar=(b:Nat)) (hv:o.voice=(v:Nat)) (hj:j<s.parts.length) (hb:b<s.bars.length) (hvl:v<=((s.parts.getD j pa0).cells.getD b []).length) (hx:o.cells=[[[x]]]):gG s o=(0,pM s j b v x,Oa j b v):=by
 have e1:o.j=j:=by rw[aH.j,hp,jQ]
 have e2:o.b=b:=by rw[aH.b,hq,jQ]
 have e3:o.v=v:=by rw[aH.v,hv,jQ]
 have e6:o.cell s=(s.parts.getD j pa0).cells.getD b []:=by rw[aH.cell,e1,e2]
 have hd:gG s o=xJ s o:=by simp [gG,hk]
 rw[hd,xJ,if_pos ⟨⟨⟨by omega,by omega⟩,by omega,by omega⟩,⟨by omega,by rw[e6];omega⟩,by rw[hx];rfl,by rw[hx];rfl,by rw[hx];rfl⟩,e1,e2,e3,hx];rfl
theorem aI6 {s:Sc} {o:aH} (j b v:Nat) (hk:o.kind=7) (hp:o.part=(j:Nat)) (hq:o.bar=(b:Nat)) (hv:o.voice=(v:Nat)) (hj:j<s.parts.length) (hb:b<s.bars.length) (hvl:v< ((s.parts.getD j pa0).cells.getD b []).length):gG s o=(0,nK s j b v,Kz j b v (((s.parts.getD j pa0).cells.getD b []).getD v ⟨[]⟩)):=by
 have e1:o.j=j:=by rw[aH.j,hp,jQ]
 have e2:o.b=b:=by rw[aH.b,hq,jQ]
 have e3:o.v=v:=by rw[aH.v,hv,jQ]
 have e6:o.cell s=(s.parts.getD j pa0).cells.getD b []:=by rw[aH.cell,e1,e2]
 have hd:gG s o=sU s o:=by simp [gG,hk]
 rw[hd,sU,if_pos ⟨⟨⟨by omega,by omega⟩,by omega,by omega⟩,by omega,by rw[e6];omega⟩,e1,e2,e3,e6]
theorem aOq {s:Sc} {o:aH} (hk:o.kind=9):gG s o=(0,Mc s o,Vx s):=by simp [gG,hk]
section
variable {s:Sc} {o:aH} (hr:Right s)
include hr
theorem cells_at {j b:Nat} (hj:j<s.parts.length) (hb:b<s.bars.length):b< (s.parts.getD j pa0).cells.length:=by
 have:=(hr.len _ (getD_mem (d:=pa0) hj)).1;omega
theorem back1 (h:(zO s o).1=0):Cc s (zO s o):=by
 unfold zO at h ⊢
 split
 rotate_left
 ·rename_i h1
  rw[if_neg h1] at h
  exact absurd h (show¬(90:Int)=0 by decide)
 rename_i h1
 obtain⟨⟨⟨p0,p1⟩,b0,b1⟩,⟨v0,v1⟩,h3⟩:=h1
 have hj:o.j<s.parts.length:=by simp only[aH.j];omega
 have hb:o.b<s.bars.length:=by simp only[aH.b];omega
 have hv:o.v< (o.cell s).length:=by simp only[aH.v];omega
 have hbc:=cells_at hr hj hb
 have han:o.a+o.n<=(o.vo s).length:=by simp only[aH.a,aH.n];omega
 have hput: ∀l,kW s o.j o.b o.v l=pX s o.j fun p=>tX p o.b o.v l:=fun _=>rfl
 have hat: ∀l,(kW s o.j o.b o.v l).parts.getD o.j pa0=tX (s.parts.getD o.j pa0) o.b o.v l:=fun l=>Jn hj
 have hce: ∀l,((kW s o.j o.b o.v l).parts.getD o.j pa0).cells.getD o.b []=(o.cell s).set o.v ⟨l⟩:=fun l=>by rw[hat,Jo hbc];rfl
 have hput2: ∀l l',kW (kW s o.j o.b o.v l) o.j o.b o.v l'=kW s o.j o.b o.v l':=fun l l'=>by
  rw[hput l,show kW (pX s o.j fun p=>tX p o.b o.v l) o.j o.b o.v l'=pX (pX s o.j fun p=>tX p o.b o.v l) o.j fun p=>tX p o.b o.v l' from rfl,Dj hj,hput]
  refine aT7 ?_
  simp only[tX]
  rw[iW hbc,List.set_set,List.set_set]
 have hsame:kW s o.j o.b o.v (o.vo s)=s:=by
  rw[hput]
  refine Dk ?_
  simp only[tX]
  rw[show(⟨o.vo s⟩:Vo)=((s.parts.getD o.j pa0).cells.getD o.b []).getD o.v ⟨[]⟩ from rfl,yU,yU]
 have hl1:(fZ (o.vo s) o.a o.n o.events).length=(o.vo s).length - o.n+o.events.length:=by simp only[fZ,List.length_append,List.length_take,List.length_drop];omega
 have m1:=aSg (s:=kW s o.j o.b o.v (fZ (o.vo s) o.a o.n o.events)) (o:=Bh o o.j o.b o.v o.a o.n (o.vo s)) o.j o.b o.v o.a o.events.length rfl rfl rfl rfl rfl rfl (by rw[zG];exact hj) hb (by rw[hce,List.length_set];exact hv) (l:=fZ (o.vo s) o.a o.n o.events) (by rw[hce,iW hv]) (by omega)
 rw[hput2,show(Bh o o.j o.b o.v o.a o.n (o.vo s)).events=((o.vo s).drop o.a).take o.n from rfl,aOl han,hsame] at m1
 refine⟨_,m1,?_⟩
 have hcl:(((o.vo s).drop o.a).take o.n).length=o.n:=by rw[List.length_take,List.length_drop];omega
 have m2:=aSg (s:=s) (o:=Bh (Bh o o.j o.b o.v o.a o.n (o.vo s)) o.j o.b o.v o.a o.events.length (fZ (o.vo s) o.a o.n o.events)) o.j o.b o.v o.a o.n rfl rfl rfl rfl rfl (by show((((o.vo s).drop o.a).take o.n).length:Int)=_;rw[hcl]) hj hb hv (l:=o.vo s) rfl han
 rw[show(Bh (Bh o o.j o.b o.v o.a o.n (o.vo s)) o.j o.b o.v o.a o.events.length (fZ (o.vo s) o.a o.n o.events)).events=o.events from aRh han] at m2
 exact⟨_,m2⟩
omit hr in
theorem aAd {α:Type} {np nb:Nat} {l:List (List α)} (h:mM np nb l=true):l.length=np/\ ∀i (hi:i<l.length),l[i].length=nb:=by
 refine⟨?_,fun i hi=>aB0 h i hi⟩
 have:=h
 simp [mM] at this;omega
omit hr in
theorem aAe {g:Nat->Pa->Pa} {ps:List Pa} (h: ∀j (hj:j<ps.length),g j ps[j]=ps[j]):ps.mapIdx g=ps:=by
 refine List.ext_getElem List.length_mapIdx fun j h1 h2=>?_
 rw[List.getElem_mapIdx,h j h2]
theorem back2 (h:(Ap s o).1=0):Cc s (Ap s o):=by
 unfold Ap at h ⊢
 split
 rotate_left
 ·rename_i h1
  rw[if_neg h1] at h
  exact absurd h (show¬(90:Int)=0 by decide)
 rename_i h1
 obtain⟨⟨b0,b1⟩,f1,f2⟩:=h1
 have hb:o.b<=s.bars.length:=by simp only[aH.b];omega
 obtain⟨c1,c2⟩:=aAd f1
 obtain⟨d1,d2⟩:=aAd f2
 have m1:=aOm (s:=iM s o o.b) (o:=Hw o o.b) o.b o.bars.length rfl rfl rfl (by show o.b+o.bars.length<=(insL s.bars o.bars o.b).length;rw[rU hb];omega)
 have hcd: ∀j (hj:j<s.parts.length),o.b<=s.parts[j].cells.length/\o.b<=s.parts[j].dyns.length/\(o.cells.getD j []).length=o.bars.length/\(o.dyns.getD j []).length=o.bars.length:=fun j hj=>by
  have:=hr.len _ (List.getElem_mem hj)
  refine⟨by omega,by omega,?_,?_⟩
  ·rw[getD_at (by omega)];exact c2 j (by omega)
  ·rw[getD_at (by omega)];exact d2 j (by omega)
 have hsame:jT (iM s o o.b) o.b o.bars.length=s:=by
  have e1:gJ (insL s.bars o.bars o.b) o.b o.bars.length=s.bars:=Wi hb
  have e2:(s.parts.mapIdx (Es o o.b)).mapIdx (fun _ p=>p.del o.b o.bars.length)=s.parts:=by
   rw[List.mapIdx_mapIdx]
   refine aAe fun j hj=>?_
   obtain⟨q1,q2,q3,q4⟩:=hcd j hj
   have x1:=Wi (l:=s.parts[j].cells) (es:=o.cells.getD j []) q1
   have x2:=Wi (l:=s.parts[j].dyns) (es:=o.dyns.getD j []) q2
   rw[q3] at x1
   rw[q4] at x2
   simp only[Function.comp,Es,Pa.ins,Pa.del,x1,x2]
  simp only[jT,iM,e1,e2]
 rw[hsame] at m1
 refine⟨_,m1,?_⟩
 have e3:(lK (iM s o o.b) o.b o.bars.length).bars=o.bars:=Wj hb
 have e4:(lK (iM s o o.b) o.b o.bars.length).cells=o.cells:=by
  show((s.parts.mapIdx (Es o o.b)).map fun p=>jO o.b o.bars.length p.cells)=o.cells
  refine List.ext_getElem (by rw[List.length_map,List.length_mapIdx,c1]) fun j h1 h2=>?_
  rw[List.getElem_map,List.getElem_mapIdx]
  obtain⟨q1,q2,q3,q4⟩:=hcd j (by omega)
  have x1:=Wj (l:=s.parts[j].cells) (es:=o.cells.getD j []) q1
  rw[q3] at x1
  simp only[Es,Pa.ins,x1]
  exact getD_at h2
 have e5:(lK (iM s o o.b) o.b o.bars.length).dyns=o.dyns:=by
  show((s.parts.mapIdx (Es o o.b)).map fun p=>jO o.b o.bars.length p.dyns)=o.dyns
  refine List.ext_getElem (by rw[List.length_map,List.length_mapIdx,d1]) fun j h1 h2=>?_
  rw[List.getElem_map,List.getElem_mapIdx]
  obtain⟨q1,q2,q3,q4⟩:=hcd j (by omega)
  have x1:=Wj (l:=s.parts[j].dyns) (es:=o.dyns.getD j []) q2
  rw[q4] at x1
  simp only[Es,Pa.ins,x1]
  exact getD_at h2
 have m2:=aSh (s:=s) (o:=lK (iM s o o.b) o.b o.bars.length) o.b rfl rfl hb (by rw[e3,e4];exact f1) (by rw[e3,e5];exact f2)
 have e6:iM s (lK (iM s o o.b) o.b o.bars.length) o.b=iM s o o.b:=by
  have e7:Es (lK (iM s o o.b) o.b o.bars.length) o.b=Es o o.b:=by
   funext j p
   simp only[Es,e4,e5]
  show(⟨s.title,insL s.bars (lK (iM s o o.b) o.b o.bars.length).bars o.b,s.parts.mapIdx (Es (lK (iM s o o.b) o.b o.bars.length) o.b)⟩:Sc)=_
  rw[e3,e7]
  rfl
 rw[e6] at m2
 exact⟨_,m2⟩
omit hr in
theorem aI7 {α:Type} {np nb:Nat} {l:List (List α)} (h:l.length=np) (h2: ∀x∈l,x.length=nb):mM np nb l=true:=by
 simp only[mM,Bool.and_eq_true,decide_eq_true_eq,Bool.not_eq_true',List.any_eq_false]
 exact⟨by omega,fun x hx=>by rw[h2 x hx];simp⟩
theorem back3 (h:(yH s o).1=0):Cc s (yH s o):=by
 unfold yH at h ⊢
 split
 rotate_left
 ·rename_i h1
  rw[if_neg h1] at h
  exact absurd h (show¬(90:Int)=0 by decide)
 rename_i h1
 have hb:o.b+o.n<=s.bars.length:=by simp only[aH.b,aH.n];omega
 obtain⟨b,hbe⟩: ∃b,o.b=b:=⟨_,rfl⟩
 obtain⟨n,hne⟩: ∃n,o.n=n:=⟨_,rfl⟩
 rw[hbe,hne] at hb ⊢
 have hlen: ∀p∈s.parts,b+n<=p.cells.length/\b+n<=p.dyns.length:=fun p hp=>by have:=hr.len p hp;omega
 have hcut:(jO b n s.bars).length=n:=Yj hb
 have hpl:(jT s b n).parts.length=s.parts.length:=List.length_mapIdx
 have hbl:(jT s b n).bars.length=s.bars.length - n:=by
  show(gJ s.bars b n).length=_
  simp only[gJ,List.length_append,List.length_take,List.length_drop];omega
 have m1:=aSh (s:=jT s b n) (o:=lK s b n) b rfl rfl (by rw[hbl];omega)
  (aI7 (by rw[hpl];exact List.length_map _) fun x hx=>by
   obtain⟨p,hp,rfl⟩:=List.mem_map.1 hx
   rw[show(lK s b n).bars.length=n from hcut];exact Yj (hlen p hp).1)
  (aI7 (by rw[hpl];exact List.length_map _) fun x hx=>by
   obtain⟨p,hp,rfl⟩:=List.mem_map.1 hx
   rw[show(lK s b n).bars.length=n from hcut];exact Yj (hlen p hp).2)
 have e2:(s.parts.mapIdx fun _ p=>p.del b n).mapIdx (Es (lK s b n) b)=s.parts:=by
  rw[List.mapIdx_mapIdx]
  refine aAe fun j hj=>?_
  have hm:=List.getElem_mem hj
  have x1:(lK s b n).cells.getD j []=jO b n s.parts[j].cells:=by
   show(s.parts.map fun p=>jO b n p.cells).getD j []=_
   rw[getD_at (by rw[List.length_map];exact hj),List.getElem_map]
  have x2:(lK s b n).dyns.getD j []=jO b n s.parts[j].dyns:=by
   show(s.parts.map fun p=>jO b n p.dyns).getD j []=_
   rw[getD_at (by rw[List.length_map];exact hj),List.getElem_map]
  have y1:=Wl (hlen _ hm).1
  have y2:=Wl (hlen _ hm).2
  simp only[Function.comp,Es,Pa.ins,Pa.del,x1,x2,y1,y2]
 have e3:iM (jT s b n) (lK s b n) b=s:=by
  show(⟨s.title,insL (gJ s.bars b n) (jO b n s.bars) b,(s.parts.mapIdx fun _ p=>p.del b n).mapIdx (Es (lK s b n) b)⟩:Sc)=s
  rw[Wl hb,e2]
 rw[e3] at m1
 exact⟨_,m1,_,aOm (s:=s) (o:=Hw (lK s b n) b) b n rfl rfl (by show((jO b n s.bars).length:Int)=_;rw[hcut]) hb⟩
omit hr in
theorem back4 (h:(yI s o).1=0):Cc s (yI s o):=by
 unfold yI at h ⊢
 split
 rotate_left
 ·rename_i h1
  rw[if_neg h1] at h
  exact absurd h (show¬(90:Int)=0 by decide)
 rename_i h1
 have hb:o.b<s.bars.length:=by simp only[aH.b];omega
 obtain⟨b,hbe⟩: ∃b,o.b=b:=⟨_,rfl⟩
 obtain⟨x,hx⟩: ∃x,o.bars.getD 0 Iy=x:=⟨_,rfl⟩
 rw[hbe] at hb ⊢
 rw[hx]
 have m1:=aOn (s:=uC s b x) (o:=⟨4,0,b,0,0,0,[],[s.bars.getD b Iy],[],[],0,0,⟨#[]⟩⟩) b (s.bars.getD b Iy) rfl rfl (by show b< (s.bars.set b x).length;rw[List.length_set];exact hb) rfl
 have e1:uC (uC s b x) b (s.bars.getD b Iy)=s:=by
  show(⟨s.title,(s.bars.set b x).set b (s.bars.getD b Iy),s.parts⟩:Sc)=s
  rw[List.set_set,yU]
 have e2:(uC s b x).bars.getD b Iy=x:=iW hb
 rw[e1,e2] at m1
 exact⟨_,m1,_,aOn (s:=s) b x rfl rfl hb rfl⟩
theorem back5 (h:(yJ s o).1=0):Cc s (yJ s o):=by
 unfold yJ at h ⊢
 split
 rotate_left
 ·rename_i h1
  rw[if_neg h1] at h
  exact absurd h (show¬(90:Int)=0 by decide)
 rename_i h1
 obtain⟨⟨⟨p0,p1⟩,b0,b1⟩,_⟩:=h1
 have hj:o.j<s.parts.length:=by simp only[aH.j];omega
 have hb:o.b<s.bars.length:=by simp only[aH.b];omega
 obtain⟨b,hbe⟩: ∃b,o.b=b:=⟨_,rfl⟩
 obtain⟨j,hje⟩: ∃j,o.j=j:=⟨_,rfl⟩
 obtain⟨x,hx⟩: ∃x,(o.dyns.getD 0 []).getD 0 []=x:=⟨_,rfl⟩
 rw[hbe] at hb ⊢
 rw[hje] at hj ⊢
 rw[hx]
 have hbd:b< (s.parts.getD j pa0).dyns.length:=by have:=(hr.len _ (getD_mem (d:=pa0) hj)).2;omega
 have hd: ∀y,Ep s j b y=pX s j fun p=> {p with dyns:=p.dyns.set b y}:=fun _=>rfl
 have m1:=aOo (s:=Ep s j b x) (o:=Rf s j b) j b ((s.parts.getD j pa0).dyns.getD b []) rfl rfl rfl (by rw[hd,Qc];exact hj) hb rfl
 have e1:Ep (Ep s j b x) j b ((s.parts.getD j pa0).dyns.getD b [])=s:=by
  rw[hd x]
  show pX (pX s j fun p=> {p with dyns:=p.dyns.set b x}) j (fun p=> {p with dyns:=p.dyns.set b ((s.parts.getD j pa0).dyns.getD b [])})=s
  rw[Dj hj]
  refine Dk ?_
  simp only[List.set_set,yU]
 have e2:((Ep s j b x).parts.getD j pa0).dyns.getD b []=x:=by
  rw[hd,Nl hj];exact iW hbd
 rw[e1] at m1
 exact⟨_,m1,_,aOo (s:=s) j b x rfl rfl rfl hj hb (by show [[((Ep s j b x).parts.getD j pa0).dyns.getD b []]]=_;rw[e2])⟩
theorem back6 (h:(xJ s o).1=0):Cc s (xJ s o):=by
 unfold xJ at h ⊢
 split
 rotate_left
 ·rename_i h1
  rw[if_neg h1] at h
  exact absurd h (show¬(90:Int)=0 by decide)
 rename_i h1
 obtain⟨⟨⟨p0,p1⟩,b0,b1⟩,⟨v0,v1⟩,_⟩:=h1
 have hj:o.j<s.parts.length:=by simp only[aH.j];omega
 have hb:o.b<s.bars.length:=by simp only[aH.b];omega
 have hv:o.v<=(o.cell s).length:=by simp only[aH.v];omega
 have hce:o.cell s=(s.parts.getD o.j pa0).cells.getD o.b []:=rfl
 rw[hce] at hv
 obtain⟨b,hbe⟩: ∃b,o.b=b:=⟨_,rfl⟩
 obtain⟨j,hje⟩: ∃j,o.j=j:=⟨_,rfl⟩
 obtain⟨v,hve⟩: ∃v,o.v=v:=⟨_,rfl⟩
 obtain⟨x,hx⟩: ∃x,((o.cells.getD 0 []).getD 0 []).getD 0 ⟨[]⟩=x:=⟨_,rfl⟩
 rw[hbe,hje,hve] at hv
 rw[hbe] at hb
 rw[hje] at hj
 rw[hbe,hje,hve,hx]
 have hbc:=cells_at hr hj hb
 have hd: ∀s y,pM s j b v y=pX s j fun p=> {p with cells:=p.cells.set b (insL (p.cells.getD b []) [y] v)}:=fun _ _=>rfl
 have hd2: ∀s,nK s j b v=pX s j fun p=> {p with cells:=p.cells.set b (gJ (p.cells.getD b []) v 1)}:=fun _=>rfl
 have ht:((pM s j b v x).parts.getD j pa0).cells.getD b []=insL ((s.parts.getD j pa0).cells.getD b []) [x] v:=by
  rw[hd,Nl hj];exact iW hbc
 have m1:=aI6 (s:=pM s j b v x) (o:=Oa j b v) j b v rfl rfl rfl rfl (by rw[hd,Qc];exact hj) hb (by rw[ht,rU hv];simp only[List.length_cons,List.length_nil];omega)
 have e1:nK (pM s j b v x) j b v=s:=by
  rw[hd2,hd,Dj hj]
  refine Dk ?_
  have:=Wi (es:=[x]) hv
  simp only[List.length_cons,List.length_nil,Nat.zero_add] at this
  simp only[iW hbc,List.set_set,this,yU]
 have e2:(insL ((s.parts.getD j pa0).cells.getD b []) [x] v).getD v ⟨[]⟩=x:=by
  have:=Wj (es:=[x]) hv
  simp only[List.length_cons,List.length_nil,Nat.zero_add,jO] at this
  rw[getD_at (by rw[rU hv];simp only[List.length_cons,List.length_nil];omega)]
  have h2:=congrArg (fun l=>l[0]?) this
  simp only[List.getElem?_take,List.getElem?_drop,Nat.add_zero,List.getElem?_cons_zero] at h2
  rw[if_pos (by omega)] at h2
  exact(List.getElem?_eq_some_iff.1 h2).2
 rw[ht,e1,e2] at m1
 exact⟨_,m1,_,aOp (s:=s) j b v x rfl rfl rfl rfl hj hb hv rfl⟩
theorem back7 (h:(sU s o).1=0):Cc s (sU s o):=by
 unfold sU at h ⊢
 split
 rotate_left
 ·rename_i h1
  rw[if_neg h1] at h
  exact absurd h (show¬(90:Int)=0 by decide)
 rename_i h1
 obtain⟨⟨⟨p0,p1⟩,b0,b1⟩,v0,v1⟩:=h1
 have hj:o.j<s.parts.length:=by simp only[aH.j];omega
 have hb:o.b<s.bars.length:=by simp only[aH.b];omega
 have hv:o.v< (o.cell s).length:=by simp only[aH.v];omega
 have hce:o.cell s=(s.parts.getD o.j pa0).cells.getD o.b []:=rfl
 rw[hce] at hv ⊢
 obtain⟨b,hbe⟩: ∃b,o.b=b:=⟨_,rfl⟩
 obtain⟨j,hje⟩: ∃j,o.j=j:=⟨_,rfl⟩
 obtain⟨v,hve⟩: ∃v,o.v=v:=⟨_,rfl⟩
 rw[hbe,hje,hve] at hv
 rw[hbe] at hb
 rw[hje] at hj
 rw[hbe,hje,hve]
 have hbc:=cells_at hr hj hb
 obtain⟨x,hx⟩: ∃x,((s.parts.getD j pa0).cells.getD b []).getD v ⟨[]⟩=x:=⟨_,rfl⟩
 rw[hx]
 have hd: ∀s y,pM s j b v y=pX s j fun p=> {p with cells:=p.cells.set b (insL (p.cells.getD b []) [y] v)}:=fun _ _=>rfl
 have hd2: ∀s,nK s j b v=pX s j fun p=> {p with cells:=p.cells.set b (gJ (p.cells.getD b []) v 1)}:=fun _=>rfl
 have ht:((nK s j b v).parts.getD j pa0).cells.getD b []=gJ ((s.parts.getD j pa0).cells.getD b []) v 1:=by
  rw[hd2,Nl hj];exact iW hbc
 have hdl:(gJ ((s.parts.getD j pa0).cells.getD b []) v 1).length=((s.parts.getD j pa0).cells.getD b []).length - 1:=by
  simp only[gJ,List.length_append,List.length_take,List.length_drop];omega
 have m1:=aOp (s:=nK s j b v) (o:=Kz j b v x) j b v x rfl rfl rfl rfl (by rw[hd2,Qc];exact hj) hb (by rw[ht,hdl];omega) rfl
 have hcx:jO v 1 ((s.parts.getD j pa0).cells.getD b [])=[x]:=by
  rw[<-hx,getD_at hv,jO,List.drop_eq_getElem_cons hv];rfl
 have e1:pM (nK s j b v) j b v x=s:=by
  rw[hd2,hd,Dj hj]
  refine Dk ?_
  have:=Wl (l:=(s.parts.getD j pa0).cells.getD b []) (b:=v) (n:=1) (by omega)
  rw[hcx] at this
  simp only[iW hbc,List.set_set,this,yU]
 rw[e1] at m1
 exact⟨_,m1,_,aI6 (s:=s) j b v rfl rfl rfl rfl hj hb hv⟩
end
end Go.Proofs.Pv
namespace Go.Proofs.Pv
open Go Go.Proofs
theorem no20 {P:Prop} (h:(20:Int)=0):P:=absurd h (by decide)
theorem aIb {p:Pi} {st ha:Int} (h:(p.up st ha).2=0):(p.up st ha).1.up (-st) (-ha)=(p,0):=by
 unfold Pi.up at h
 split at h
 ·exact no20 h
 rename_i h1
 have h1:=Classical.not_not.1 h1
 split at h
 ·exact no20 h
 rename_i h2
 split at h
 rotate_left
 ·exact no20 h
 rename_i h3
 obtain⟨hr,a1,a2,a3,a4⟩:=h1
 have e0:p.up st ha=(⟨(p.upq st).step,p.number+ha - (p.upq st).number,(p.upq st).octave⟩,0):=by rw[Pi.up,if_neg (fun h=>h ⟨hr,a1,a2,a3,a4⟩),if_neg h2,if_pos h3]
 rw[e0]
 have hf:p.fits=true:=by simp only[Pi.right,Bool.and_eq_true] at hr;exact hr.1
 simp only[Pi.fits,decide_eq_true_eq] at hf
 have hm:(p.line+st+7).tmod 7=(p.line+st+7) % 7:=Int.tmod_eq_emod_of_nonneg (by omega)
 have hd:(p.line+st+7).tdiv 7=(p.line+st+7) / 7:=Int.tdiv_eq_ediv_of_nonneg (by omega)
 obtain⟨q,hq⟩: ∃q:Pi,(⟨(p.upq st).step,p.number+ha - (p.upq st).number,(p.upq st).octave⟩:Pi)=q:=⟨_,rfl⟩
 rw[hq] at h3
 simp only[hq]
 have q1:q.step=(p.line+st+7) % 7:=by rw[<-hq,<-hm];rfl
 have q2:q.octave=(p.line+st+7) / 7 - 1:=by rw[<-hq,<-hd];rfl
 have q3:q.alter=p.number+ha - (12*(q.octave+1)+half q.step+0):=by rw[<-hq];rfl
 have ql0:q.line=7*q.octave+q.step:=rfl
 have ql:q.line=p.line+st:=by omega
 have qn0:q.number=12*(q.octave+1)+half q.step+q.alter:=rfl
 have qn:q.number=p.number+ha:=by omega
 have pl:p.line=7*p.octave+p.step:=rfl
 have pn:p.number=12*(p.octave+1)+half p.step+p.alter:=rfl
 have u:q.upq (-st)=⟨p.step,0,p.octave⟩:=by
  have e1:p.line+st+ -st+7=p.line+7:=by omega
  rw[Pi.upq,ql,e1,Int.tmod_eq_emod_of_nonneg (by omega),Int.tdiv_eq_ediv_of_nonneg (by omega)]
  have e2:(p.line+7) % 7=p.step:=by omega
  have e3:(p.line+7) / 7 - 1=p.octave:=by omega
  rw[e2,e3]
 have w:(⟨(q.upq (-st)).step,q.number+ -ha - (q.upq (-st)).number,(q.upq (-st)).octave⟩:Pi)=p:=by
  have e4:q.number+ -ha - (q.upq (-st)).number=p.alter:=by
   rw[u,show(⟨p.step,0,p.octave⟩:Pi).number=12*(p.octave+1)+half p.step+0 from rfl];omega
  rw[e4,u]
 rw[Pi.up,if_neg (fun h=>h ⟨h3,by omega,by omega,by omega,by omega⟩),if_neg (by rw[ql];omega),w,if_pos hr]
theorem aIc {e:Ev} {st ha:Int} (h:(e.up st ha).2=0):(e.up st ha).1.up (-st) (-ha)=(e,0):=by
 unfold Ev.up at h
 split at h
 rotate_left
 ·exact absurd h (show¬(60:Int)=0 by decide)
 rename_i h1
 split at h
 ·exact no20 h
 rename_i h2
 split at h
 rotate_left
 ·exact absurd h (show¬(60:Int)=0 by decide)
 rename_i h3
 have e0:e.up st ha=(e.upE st ha,0):=by rw[Ev.up,if_pos h1,if_neg h2,if_pos h3]
 have hp: ∀p∈e.pitches,(p.up st ha).2=0:=fun p hp=>by
  simp only[Bv,List.any_eq_true,not_exists,not_and,Bool.not_eq_true',decide_eq_false_iff_not,Bool.not_eq_true,Bool.not_eq_false',decide_eq_true_eq] at h2
  exact Classical.not_not.1 (h2 p hp)
 have hb:Bv (-st) (-ha) (e.upE st ha).pitches=false:=by
  rw[Bv,List.any_eq_false]
  intro q hq
  obtain⟨p,hp1,rfl⟩:=List.mem_map.1 hq
  rw[aIb (hp p hp1)];simp
 have hu:(e.upE st ha).upE (-st) (-ha)=e:=by
  have:(e.pitches.map fun p=>(p.up st ha).1).map (fun p=>(p.up (-st) (-ha)).1)=e.pitches:=by
   rw[List.map_map]
   refine(List.map_congr_left fun p hp1=>?_).trans (List.map_id _)
   show((p.up st ha).1.up (-st) (-ha)).1=id p
   rw[aIb (hp p hp1)];rfl
  show({e with pitches:=(e.pitches.map fun p=>(p.up st ha).1).map (fun p=>(p.up (-st) (-ha)).1)}:Ev)=e
  rw[this]
 rw[e0]
 show(e.upE st ha).up (-st) (-ha)=(e,0)
 rw[Ev.up,if_pos h3,hb,hu,if_pos h1];rfl
def upV (st ha:Int) (x:Vo):Vo:=⟨x.l.map fun e=>(e.up st ha).1⟩
def Dw (st ha:Int) (cs:List (List Vo)):List (List Vo):=cs.map fun c=>c.map (upV st ha)
theorem Vm {st ha:Int} {cs:List (List Vo)}:gU st ha (fun _ _ _=>true) cs=Dw st ha cs:=by
 refine List.ext_getElem (by rw[kP,Dw,List.length_map]) fun i h1 h2=>?_
 rw[qL]
 simp only[Dw,List.getElem_map]
 refine List.ext_getElem (by rw[List.length_mapIdx,List.length_map]) fun j h3 h4=>?_
 rw[List.getElem_mapIdx,List.getElem_map,vW,upV]
 congr 1
 refine List.ext_getElem (by rw[List.length_mapIdx,List.length_map]) fun k h5 h6=>?_
 rw[List.getElem_mapIdx,List.getElem_map];rfl
theorem aMh {st ha:Int} {cs:List (List Vo)} (h:eY st ha cs=0): ∀e∈wP cs,(e.up st ha).2=0:=by
 intro e he
 rw[eY] at h
 cases hf:(wP cs).find? fun e=>decide ((e.up st ha).2≠0) with
 |none=>
  have:=List.find?_eq_none.1 hf e he
  simpa using this
 |some x=>
  rw[hf] at h
  have:=List.find?_some hf
  simp only[Option.map_some,Option.getD_some] at h
  simp only[h] at this
  exact absurd this (by decide)
theorem aJw {st ha:Int} {cs:List (List Vo)} (h: ∀e∈wP cs,(e.up st ha).2=0):eY st ha cs=0:=by
 rw[eY,List.find?_eq_none.2 fun e he=>by simp [h e he]];rfl
theorem aBh {cs:List (List Vo)} {e:Ev}:e∈wP cs↔ ∃c∈cs,∃v∈c,e∈v.l:=by
 simp only[wP,List.mem_flatMap]
theorem aId {st ha:Int} {cs:List (List Vo)} (h:eY st ha cs=0):Dw (-st) (-ha) (Dw st ha cs)=cs/\eY (-st) (-ha) (Dw st ha cs)=0:=by
 have ha:=aMh h
 constructor
 ·rw[Dw,Dw,List.map_map]
  refine(List.map_congr_left fun c hc=>?_).trans (List.map_id _)
  show(c.map _).map _=c
  rw[List.map_map]
  refine(List.map_congr_left fun v hv=>?_).trans (List.map_id _)
  show(⟨(v.l.map _).map _⟩:Vo)=v
  have:(v.l.map fun e=>(e.up st ‹Int›).1).map (fun e=>(e.up (-st) (-‹Int›)).1)=v.l:=by
   rw[List.map_map]
   refine(List.map_congr_left fun e he=>?_).trans (List.map_id _)
   show((e.up st _).1.up (-st) _).1=e
   rw[aIc (ha e (aBh.2 ⟨c,hc,v,hv,he⟩))]
  rw[this]
 ·refine aJw fun e he=>?_
  obtain⟨c',hc',v',hv',he'⟩:=aBh.1 he
  obtain⟨c,hc,rfl⟩:=List.mem_map.1 hc'
  obtain⟨v,hv,rfl⟩:=List.mem_map.1 hv'
  obtain⟨e0,he0,rfl⟩:=List.mem_map.1 he'
  rw[aIc (ha e0 (aBh.2 ⟨c,hc,v,hv,he0⟩))]
theorem aE0 {k:Ke} {st ha:Int} (h:(k.up st ha).2=0):(k.up st ha).1.up (-st) (-ha)=(k,0):=by
 unfold Ke.up at h
 split at h
 rotate_left
 ·exact absurd h (show¬(30:Int)=0 by decide)
 rename_i h1
 split at h
 rotate_left
 ·exact absurd h (show¬(30:Int)=0 by decide)
 rename_i h2
 have e0:k.up st ha=(⟨k.fifths+7*ha - 12*st,k.minor⟩,0):=by rw[Ke.up,if_pos h1,if_pos h2]
 rw[e0]
 have w:(⟨k.fifths+7*ha - 12*st+7* -ha - 12* -st,k.minor⟩:Ke)=k:=by
  rw[show k.fifths+7*ha - 12*st+7* -ha - 12* -st=k.fifths by omega]
 show Ke.up ⟨k.fifths+7*ha - 12*st,k.minor⟩ (-st) (-ha)=(k,0)
 rw[Ke.up,if_pos h2]
 show(if(⟨k.fifths+7*ha - 12*st+7* -ha - 12* -st,k.minor⟩:Ke).right=true then((⟨k.fifths+7*ha - 12*st+7* -ha - 12* -st,k.minor⟩:Ke),(0:Int)) else(⟨0,false⟩,30))=(k,0)
 rw[w,if_pos h1]
theorem aCf {α:Type} {f:α->Int} {l:List α} (h:tJ f l=0): ∀x∈l,f x=0:=by
 intro x hx
 rw[tJ] at h
 cases hf:l.find? fun x=>decide (f x≠0) with
 |none=>
  have:=List.find?_eq_none.1 hf x hx
  simpa using this
 |some y=>
  rw[hf] at h
  have:=List.find?_some hf
  simp only[Option.map_some,Option.getD_some] at h
  simp only[h] at this
  exact absurd this (by decide)
theorem Yz {α:Type} {f:α->Int} {l:List α} (h: ∀x∈l,f x=0):tJ f l=0:=Xr fun j hj=>h _ (List.getElem_mem hj)
theorem aIe {st ha:Int} {p:Pa} (h:Rj st ha p=0):(p.up st ha).up (-st) (-ha)=p/\Rj (-st) (-ha) (p.up st ha)=0:=by
 obtain⟨h1,h2⟩:=aId h
 constructor
 ·show({p with cells:=gU (-st) (-ha) (fun _ _ _=>true) (gU st ha (fun _ _ _=>true) p.cells)}:Pa)=p
  rw[Vm,Vm,h1]
 ·show eY (-st) (-ha) (gU st ha (fun _ _ _=>true) p.cells)=0
  rw[Vm];exact h2
theorem aPv {s:Sc} {st ha:Int} (h:rJ s st ha=0):qN (qN s st ha) (-st) (-ha)=s/\rJ (qN s st ha) (-st) (-ha)=0:=by
 have h0:tJ (keyE st ha) s.bars=0/\tJ (Rj st ha) s.parts=0:=by
  rw[rJ] at h
  split at h
  ·rename_i h1;exact⟨h1,h⟩
  ·rename_i h1;exact absurd h h1
 have hk:=aCf h0.1
 have hp:=aCf h0.2
 constructor
 ·have e1:(s.bars.map (Ba.up st ha)).map (Ba.up (-st) (-ha))=s.bars:=by
   rw[List.map_map]
   refine(List.map_congr_left fun b hb=>?_).trans (List.map_id _)
   show({b with key:=((b.key.up st ha).1.up (-st) (-ha)).1}:Ba)=b
   rw[aE0 (hk b hb)]
  have e2:(s.parts.map (Pa.up st ha)).map (Pa.up (-st) (-ha))=s.parts:=by
   rw[List.map_map]
   exact(List.map_congr_left fun p hp1=>(aIe (hp p hp1)).1).trans (List.map_id _)
  show(⟨s.title,(s.bars.map (Ba.up st ha)).map (Ba.up (-st) (-ha)),(s.parts.map (Pa.up st ha)).map (Pa.up (-st) (-ha))⟩:Sc)=s
  rw[e1,e2]
 ·rw[rJ,if_pos]
  ·refine Yz fun q hq=>?_
   obtain⟨p,hp1,rfl⟩:=List.mem_map.1 hq
   exact(aIe (hp p hp1)).2
  ·refine Yz fun q hq=>?_
   obtain⟨b,hb,rfl⟩:=List.mem_map.1 hq
   show((b.key.up st ha).1.up (-st) (-ha)).2=0
   rw[aE0 (hk b hb)]
theorem aR1 {s:Sc} {o:aH} (j:Nat) (hk:o.kind=8) (hp:o.part=(j:Nat)) (hj:j<s.parts.length) (h1: -70<=o.steps/\o.steps<=70) (h2: -120<=o.halves/\o.halves<=120):gG s o=(eY o.steps o.halves (s.parts.getD j pa0).cells,qO s j o.steps o.halves,oW j o.steps o.halves):=by
 have e1:o.j=j:=by rw[aH.j,hp,jQ]
 have hd:gG s o=zQ s o:=by simp [gG,hk]
 rw[hd,zQ,if_pos (by simp only[aH.upOk,Bool.and_eq_true,decide_eq_true_eq];exact⟨by omega,h1,h2⟩),if_pos (by omega),e1]
theorem aMi {s:Sc} {o:aH} (hk:o.kind=8) (hp:o.part<0) (h1: -70<=o.steps/\o.steps<=70) (h2: -120<=o.halves/\o.halves<=120):gG s o=(rJ s o.steps o.halves,qN s o.steps o.halves,oW (-1) o.steps o.halves):=by
 have hd:gG s o=zQ s o:=by simp [gG,hk]
 rw[hd,zQ,if_pos (by simp only[aH.upOk,Bool.and_eq_true,decide_eq_true_eq];exact⟨by omega,h1,h2⟩),if_neg (by omega)]
theorem back8 {s:Sc} {o:aH} (h:(zQ s o).1=0):Cc s (zQ s o):=by
 unfold zQ at h ⊢
 split
 rotate_left
 ·rename_i h1
  rw[if_neg h1] at h
  exact absurd h (show¬(90:Int)=0 by decide)
 rename_i h1
 rw[if_pos h1] at h
 simp only[aH.upOk,Bool.and_eq_true,decide_eq_true_eq] at h1
 obtain⟨st,hst⟩: ∃x,o.steps=x:=⟨_,rfl⟩
 obtain⟨ha,hha⟩: ∃x,o.halves=x:=⟨_,rfl⟩
 rw[hst,hha] at h h1 ⊢
 have nn1: - -st=st:=Int.neg_neg st
 have nn2: - -ha=ha:=Int.neg_neg ha
 split
 ·rename_i h2
  rw[if_pos h2] at h
  have hj:o.j<s.parts.length:=by simp only[aH.j];omega
  obtain⟨j,hje⟩: ∃j,o.j=j:=⟨_,rfl⟩
  rw[hje] at h hj ⊢
  replace h:eY st ha (s.parts.getD j pa0).cells=0:=h
  obtain⟨c1,c2⟩:=aId h
  have hd: ∀s st ha,qO s j st ha=pX s j fun p=> {p with cells:=Dw st ha p.cells}:=fun s st ha=>by
   rw[qO,Vm];rfl
  have hc:((qO s j st ha).parts.getD j pa0).cells=Dw st ha (s.parts.getD j pa0).cells:=by rw[hd,Nl hj]
  have m1:=aR1 (s:=qO s j st ha) (o:=oW j st ha) j rfl rfl (by rw[hd,Qc];exact hj) (show -70<= -st/\ -st<=70 by omega) (show -120<= -ha/\ -ha<=120 by omega)
  have e1:qO (qO s j st ha) j (-st) (-ha)=s:=by
   rw[hd,hd,Dj hj]
   refine Dk ?_
   show({(s.parts.getD j pa0) with cells:=Dw (-st) (-ha) (Dw st ha (s.parts.getD j pa0).cells)}:Pa)=_
   rw[c1]
  rw[show(oW j st ha).steps= -st from rfl,show(oW j st ha).halves= -ha from rfl,hc,c2,e1] at m1
  have m2:=aR1 (s:=s) (o:=oW j (-st) (-ha)) j rfl rfl hj (show -70<= - -st/\ - -st<=70 by omega) (show -120<= - -ha/\ - -ha<=120 by omega)
  rw[show(oW j (-st) (-ha)).steps= - -st from rfl,show(oW j (-st) (-ha)).halves= - -ha from rfl,nn1,nn2,h] at m2
  exact⟨_,m1,_,m2⟩
 ·rename_i h2
  rw[if_neg h2] at h
  replace h:rJ s st ha=0:=h
  obtain⟨c1,c2⟩:=aPv h
  have m1:=aMi (s:=qN s st ha) (o:=oW (-1) st ha) rfl (show(-1:Int)<0 by decide) (show -70<= -st/\ -st<=70 by omega) (show -120<= -ha/\ -ha<=120 by omega)
  rw[show(oW (-1) st ha).steps= -st from rfl,show(oW (-1) st ha).halves= -ha from rfl,c1,c2] at m1
  have m2:=aMi (s:=s) (o:=oW (-1) (-st) (-ha)) rfl (show(-1:Int)<0 by decide) (show -70<= - -st/\ - -st<=70 by omega) (show -120<= - -ha/\ - -ha<=120 by omega)
  rw[show(oW (-1) (-st) (-ha)).steps= - -st from rfl,show(oW (-1) (-st) (-ha)).halves= - -ha from rfl,nn1,nn2,h] at m2
  exact⟨_,m1,_,m2⟩
theorem back9 {s:Sc} {o:aH}:Cc s (0,Mc s o,Vx s):=⟨_,aOq rfl,_,aOq rfl⟩
theorem aPw {s:Sc} {o:aH} (hr:Right s) (h:(gG s o).1=0):Cc s (gG s o):=by
 unfold gG at h ⊢
 repeat' split
 all_goals simp only[*,if_true,if_false] at h
 ·exact back1 hr h
 ·exact back2 hr h
 ·exact back3 hr h
 ·exact back4 h
 ·exact back5 hr h
 ·exact back6 hr h
 ·exact back7 hr h
 ·exact back8 h
 ·exact back9
 ·exact absurd h (show¬(90:Int)=0 by decide)
theorem aJx {s:Sc} {o:aH} (h:(dA s o).1=0):(dA (dA s o).2.1 (dA s o).2.2).1=0/\(dA (dA s o).2.1 (dA s o).2.2).2.1=s/\(dA s (dA (dA s o).2.1 (dA s o).2.2).2.2).1=0/\(dA s (dA (dA s o).2.1 (dA s o).2.2).2.2).2.1=(dA s o).2.1:=by
 have h0:=h
 rw[dA] at h
 split at h
 rotate_left
 ·rename_i h1;exact absurd h h1
 rename_i hc
 split at h
 rotate_left
 ·rename_i h2;exact absurd h h2
 rename_i hd
 replace h:(gG s o).2.1.checkR.2=0:=h
 have e0:dA s o=(0,(gG s o).2):=by rw[dA,if_pos hc,if_pos hd,h]
 rw[e0]
 obtain⟨o',m1,b',m2⟩:=aPw (mO hc) hd
 have e1:dA (gG s o).2.1 (gG s o).2.2=(0,s,o'):=by rw[dA,if_pos h,m1,if_pos rfl];simp only[hc]
 have e2:dA s o'=(0,(gG s o).2.1,b'):=by rw[dA,if_pos hc,m2,if_pos rfl];simp only[h]
 show(dA (gG s o).2.1 (gG s o).2.2).1=0/\(dA (gG s o).2.1 (gG s o).2.2).2.1=s/\(dA s (dA (gG s o).2.1 (gG s o).2.2).2.2).1=0/\(dA s (dA (gG s o).2.1 (gG s o).2.2).2.2).2.1=(gG s o).2.1
 rw[e1]
 show _/\_/\(dA s o').1=0/\(dA s o').2.1=_
 rw[e2]
 exact⟨rfl,rfl,rfl,rfl⟩
theorem getOp {l:List aH} {i:Nat} (h:i<l.length):l[i]?=some l[i]:=List.getElem?_eq_getElem h
def Dl (l:List aH):Bool:=Ec 6 aH.fewB l
theorem Uh (l:List aH):PC Tryz.prog gl 6 [tY l] (fun v=>v= .bool (Dl l)):=by
 unfold tY
 (refine PC.introZ 1 mix (fn:=Tryz.f6) Tryz.func6 rfl (names 6 _ Tryz.func6) fun F hF hro W=>?_;simp only[Tryz.ntmps6,Tryz.results6,aJ,Nat.reduceAdd,Nat.reduceSub])
 repeat' (simp -implicitDefEqProofs only[aA,aC,Nat.reduceAdd, *])
 refine lM (fD 23 [0,3]) [] 100 7 (fun i (_:Unit)=>⟨[.sl 13 (l.map aH.av) .none,.ud,.ud,.int .i64 (i:Nat),.ud,.ud,.ud,.ud,.ud,.ud,.ud,.ud,.ud,.ud,.ud,.ud,.ud,.ud,.ud,.ud,.ud,.ud,.ud],[]⟩) (fun _ _=>⟨[],100⟩) (fun i _=>upTo aH.fewB l i) () rG rfl rfl ?_
 rintro i x hi hQ
 repeat' (first
  |simp -implicitDefEqProofs only[↓reduceIte,aA,aC,facts,Nat.reduceAdd, *]
  |simp -implicitDefEqProofs (disch:=first|assumption|omega) only[aA,aC,facts,if_pos,Nat.reduceAdd,wrap_in,getOp,aH.av, *]
  |((with_reducible refine aF (fun _=>?_) (fun _=>?_))<;>try omega)
  |((with_reducible refine dR (fun _=>?_) (fun _=>?_))<;>try omega)
  |((with_reducible refine jE (fun _=>?_) (fun _=>?_))<;>try omega)
  |((with_reducible refine aS 14 ?_);refine PC.useZ hF (aQs _) (rfl) fun v hv=>?_;subst hv))
 ·rename_i h1 h2 h3
  exact kH () (by omega) (rH hQ (by omega) h3) rfl rfl
 ·rename_i h1 h2 h3
  rw[Dl,Aq (by omega) h3]
 ·rename_i h1 h2
  rw[Dl,xA (.inr (by omega)) hQ];rfl
 ·rename_i h1
  rw[Dl,xA (.inl (by omega)) hQ];rfl
def Chain (s:Sc):List (aH×aH)->Sc->Prop
 |[],t=>s=t
 |x::r,t=> ∃s1,dA s1 x.1=(0,s,x.2)/\(dA s x.2).1=0/\(dA s x.2).2.1=s1/\x.1.fine/\x.2.fine/\Chain s1 r t
theorem aCs: ∀(l:List aH) (s:Sc) (bs:List aH),s.fine->s.checkR.2=0->(∀o∈l,o.fine)->(jP s l bs).1=0-> ∃r:List (aH×aH),(jP s l bs).2.2.1=bs++r.map (·.1)/\r.length=l.length/\Chain s r (jP s l bs).2.1
 |[],s,bs,hs,hc,hl,h=>⟨[],(List.append_nil _).symm,rfl,rfl⟩
 |o::l,s,bs,hs,hc,hl,h=>by
  have ho:=hl o (.head _)
  rw[jP] at h ⊢
  split at h
  rotate_left
  ·rename_i h1;exact absurd h h1
  rename_i h1
  rw[if_pos h1]
  rcases Xk s o hs ho with⟨he,_⟩|⟨he,hc1,hc2,_⟩
  ·exact absurd h1 he
  have hf:=Bl hs ho h1
  obtain⟨c1,c2,c3,c4⟩:=aJx h1
  have hf2:=Bl hf.s hf.o c1
  obtain⟨r,q1,q2,q3⟩:=aCs l _ (bs++[(dA s o).2.2]) hf.s hc2 (fun x hx=>hl x (.tail _ hx)) h
  refine⟨((dA s o).2.2,(dA (dA s o).2.1 (dA s o).2.2).2.2)::r,?_,by rw[List.length_cons,List.length_cons,q2],(dA s o).2.1,?_,c3,c4,hf.o,hf2.o,q3⟩
  ·rw[q1,List.append_assoc];rfl
  ·exact Prod.ext c1 (Prod.ext c2 rfl)
theorem Zm: ∀ {r:List (aH×aH)} {s t:Sc},Chain s r t-> ∀x∈r,x.1.fine/\x.2.fine
 |[],s,t,h,x,hx=>nomatch hx
 |y::r,s,t,h,x,hx=>by
  obtain⟨s1,_,_,_,f1,f2,h2⟩:=h
  rcases List.mem_cons.1 hx with rfl|hx
  ·exact⟨f1,f2⟩
  ·exact Zm h2 x hx
theorem Zn: ∀(r:List (aH×aH)) (s t:Sc) (bs:List aH),Chain s r t->jP t (r.map (·.1)).reverse bs=(0,s,bs++(r.map (·.2)).reverse,bs.length+r.length)
 |[],s,t,bs,h=>by
  have h:s=t:=h
  subst h
  simp [jP]
 |x::r,s,t,bs,h=>by
  obtain⟨s1,a1,_,_,_,_,h2⟩:=h
  rw[List.map_cons,List.reverse_cons,aEr,Zn r s1 t bs h2,if_pos rfl]
  show jP s1 [x.1] (bs++(r.map (·.2)).reverse)=_
  rw[jP,a1,if_pos rfl,jP]
  simp only[List.map_cons,List.reverse_cons,List.length_append,List.length_reverse,List.length_map,List.length_cons,List.length_nil,List.append_assoc,Nat.add_assoc]
theorem Xa: ∀(r:List (aH×aH)) (s t:Sc) (bs:List aH),Chain s r t->(jP s (r.map (·.2)) bs).1=0/\(jP s (r.map (·.2)) bs).2.1=t
 |[],s,t,bs,h=>⟨rfl,h⟩
 |x::r,s,t,bs,h=>by
  obtain⟨s1,_,a2,a3,_,_,h2⟩:=h
  rw[List.map_cons,jP,if_pos a2,a3]
  exact Xa r s1 t _ h2
theorem aFa: ∀(l:List aH) (s:Sc) (bs:List aH),(jP s l bs).1≠0->(jP s l bs).2.2.2<bs.length+l.length
 |[],s,bs,h=>absurd rfl h
 | o::l,s,bs,h=>by
  rw[jP] at h ⊢
  split at h
  ·rename_i h1
   rw[if_pos h1]
   have:=aFa l _ _ h
   rw[List.length_append,List.length_singleton] at this
   rw[List.length_cons];omega
  ·rename_i h1
   rw[if_neg h1,List.length_cons]
   show bs.length<_
   omega
theorem aVq (s:Sc) (l:List aH) (hup:PC Tryz.prog gl 4 [] (fun v=>v= .bool true)) (h: ¬(s.fewB=true/\Dl l=true)):PC Tryz.prog gl 3 [s.av,tY l] (fun v=>v= .bool true):=by
 have hfo:=Uh l
 unfold tY at hfo ⊢
 (refine PC.introZ 2 mix (fn:=Tryz.f3) Tryz.func3 rfl (names 3 _ Tryz.func3) fun F hF hro W=>?_;simp only[Tryz.ntmps3,Tryz.results3,aJ,Nat.reduceAdd,Nat.reduceSub])
 repeat' (first
  |simp -implicitDefEqProofs only[↓reduceIte,aA,aC,facts,Nat.reduceAdd,Sc.av, *]
  |((with_reducible refine dR (fun _=>?_) (fun _=>?_))<;>try omega)
  |((with_reducible refine jW (fun _=>?_) (fun _=>?_))<;>try omega)
  |((with_reducible refine aS 4 ?_);refine PC.useZ hF hup (rfl) fun v hv=>?_;subst hv)
  |((with_reducible refine aS 5 ?_);refine PC.useZ hF (Zt s) (rfl) fun v hv=>?_;subst hv)
  |((with_reducible refine aS 6 ?_);refine PC.useZ hF hfo (rfl) fun v hv=>?_;subst hv))
 all_goals (exfalso;simp_all;done)
theorem aMw (s:Sc) (l:List aH) (hup:PC Tryz.prog gl 4 [] (fun v=>v= .bool true)) (h1:s.fewB=true) (h2:Dl l=true) (e:Int) (t:Sc) (n:Nat) (he:e≠0) (hn:n<l.length\/l.length=0) (hr:PC Tryz.prog gl 7 [s.av,tY l] (fun v=>v=xE (e,t,[],n))):PC Tryz.prog gl 3 [s.av,tY l] (fun v=>v= .bool true):=by
 have hfo:=Uh l
 have he1:(e !=0)=true:=by simpa using he
 have hn0:(0:Int)<=(n:Int):=by omega
 unfold tY at hfo hr ⊢
 simp only[xE,List.reverse_nil,List.map_nil] at hr
 rcases hn with hn|hn
 ·have hn1:(n:Int)< (l.length:Int):=by omega
  (refine PC.introZ 2 mix (fn:=Tryz.f3) Tryz.func3 rfl (names 3 _ Tryz.func3) fun F hF hro W=>?_;simp only[Tryz.ntmps3,Tryz.results3,aJ,Nat.reduceAdd,Nat.reduceSub])
  repeat' (first
  |simp -implicitDefEqProofs only[↓reduceIte,aA,aC,facts,Nat.reduceAdd,Nat.reduceEqDiff,Sc.av,ge_iff_le, *]
  |((with_reducible refine aS 4 ?_);refine PC.useZ hF hup (rfl) fun v hv=>?_;subst hv)
  |((with_reducible refine aS 5 ?_);refine PC.useZ hF (Zt s) (rfl) fun v hv=>?_;subst hv)
  |((with_reducible refine aS 6 ?_);refine PC.useZ hF hfo (rfl) fun v hv=>?_;subst hv)
  |((with_reducible refine aS 7 ?_);refine PC.useZ hF hr (rfl) fun v hv=>?_;subst hv))
 ·have hl0:l=[]:=List.length_eq_zero_iff.1 hn
  subst hl0
  simp only[List.map_nil] at hfo hr ⊢
  (refine PC.introZ 2 mix (fn:=Tryz.f3) Tryz.func3 rfl (names 3 _ Tryz.func3) fun F hF hro W=>?_;simp only[Tryz.ntmps3,Tryz.results3,aJ,Nat.reduceAdd,Nat.reduceSub])
  repeat' (first
  |simp -implicitDefEqProofs only[↓reduceIte,aA,aC,facts,Nat.reduceAdd,Nat.reduceEqDiff,Sc.av,ge_iff_le, *]
  |((with_reducible refine iH (fun _=>?_) (fun _=>?_))<;>try omega)
  |((with_reducible refine aS 4 ?_);refine PC.useZ hF hup (rfl) fun v hv=>?_;subst hv)
  |((with_reducible refine aS 5 ?_);refine PC.useZ hF (Zt s) (rfl) fun v hv=>?_;subst hv)
  |((with_reducible refine aS 6 ?_);refine PC.useZ hF hfo (rfl) fun v hv=>?_;subst hv)
  |((with_reducible refine aS 7 ?_);refine PC.useZ hF hr (rfl) fun v hv=>?_;subst hv))
theorem aVr (s:Sc) (l:List aH) (hup:PC Tryz.prog gl 4 [] (fun v=>v= .bool true)) (h1:s.fewB=true) (h2:Dl l=true) (t:Sc) (b b2 b3:List aH) (n3:Nat) (hr:PC Tryz.prog gl 7 [s.av,tY l] (fun v=>v=xE (0,t,b,l.length))) (hr2:PC Tryz.prog gl 7 [t.av,tY b.reverse] (fun v=>v=xE (0,s,b2,l.length))) (hr3:PC Tryz.prog gl 7 [s.av,tY b2.reverse] (fun v=>v=xE (0,t,b3,n3)))
  (hs:PC Tryz.prog gl 8 [s.av,s.av] (fun v=>v= .bool true)) (ht:PC Tryz.prog gl 8 [t.av,t.av] (fun v=>v= .bool true)):PC Tryz.prog gl 3 [s.av,tY l] (fun v=>v= .bool true):=by
 have hfo:=Uh l
 unfold tY at hfo hr hr2 hr3 ⊢
 simp only[xE] at hr hr2 hr3
 (refine PC.introZ 2 mix (fn:=Tryz.f3) Tryz.func3 rfl (names 3 _ Tryz.func3) fun F hF hro W=>?_;simp only[Tryz.ntmps3,Tryz.results3,aJ,Nat.reduceAdd,Nat.reduceSub])
 repeat' (first
  |simp -implicitDefEqProofs only[↓reduceIte,aA,aC,facts,Nat.reduceAdd,Nat.reduceEqDiff,Int.reduceBNe,Sc.av, *]
  |((with_reducible refine aS 4 ?_);refine PC.useZ hF hup (rfl) fun v hv=>?_;subst hv)
  |((with_reducible refine aS 5 ?_);refine PC.useZ hF (Zt s) (rfl) fun v hv=>?_;subst hv)
  |((with_reducible refine aS 6 ?_);refine PC.useZ hF hfo (rfl) fun v hv=>?_;subst hv)
  |((with_reducible refine aS 7 ?_);refine PC.useZ hF hr (rfl) fun v hv=>?_;subst hv)
  |((with_reducible refine aS 7 ?_);refine PC.useZ hF hr2 (rfl) fun v hv=>?_;subst hv)
  |((with_reducible refine aS 7 ?_);refine PC.useZ hF hr3 (rfl) fun v hv=>?_;subst hv)
  |((with_reducible refine aS 8 ?_);refine PC.useZ hF hs (rfl) fun v hv=>?_;subst hv)
  |((with_reducible refine aS 8 ?_);refine PC.useZ hF ht (rfl) fun v hv=>?_;subst hv))
theorem aT8 {d:Nat} {cs:List AV} (h:okV Tryz.prog (d+11) 26 cs): ∃l:List aH,cs=[tY l]/\ ∀o∈l,o.typed/\o.typedB:=by
 obtain⟨rows,rfl,_,hr⟩:=kU Tryz.underlying26 h
 obtain⟨l,rfl,hq⟩:=nY (f:=aH.av) (Q:=fun a:aH=>a.typed/\a.typedB) rows fun r hr'=>by
  obtain⟨c,rfl,hk⟩:=hr r hr'
  obtain⟨a,e1,q1⟩:=aUa hk
  exact⟨a,by rw[e1];simp only[mkRow,ag50,if_true];rfl,q1⟩
 exact⟨l,by rw[show Tryz.prog.cellsOf 50=13 from by kernel_rfl];rfl,hq⟩
theorem aV4 (s:Sc) (l:List aH) (hup:PC Tryz.prog gl 4 [] (fun v=>v= .bool true)) (ts:s.typed) (to: ∀o∈l,o.typed/\o.typedB):PC Tryz.prog gl 3 [s.av,tY l] (fun v=>v= .bool true):=by
 by_cases hf:s.fewB=true/\Dl l=true
 rotate_left
 ·exact aVq s l hup hf
 obtain⟨h1,h2⟩:=hf
 have hs:=Yw ts h1
 obtain⟨hn,h3⟩:=wU h2
 have hl: ∀o∈l,o.fine:=fun o ho=>aUu (to o ho).1 (to o ho).2 (h3 o ho)
 have hr:=Wq s l hs hl (by omega)
 have ok:=aJm s l hs hl
 by_cases hc:s.checkR.2=0
 rotate_left
 ·have e1:nJ s l=(s.checkR.2,zeroS,[],0):=by rw[nJ,if_neg hc]
  rw[e1] at hr
  exact aMw s l hup h1 h2 _ _ _ hc (by omega) hr
 have e1:nJ s l=jP s l []:=by rw[nJ,if_pos hc]
 rw[e1] at hr ok
 by_cases he:(jP s l []).1=0
 rotate_left
 ·have hlt:=aFa l s [] he
  have hno:=ok.no he
  rw[show jP s l []=((jP s l []).1,(jP s l []).2.1,[],(jP s l []).2.2.2) from Prod.ext rfl (Prod.ext rfl (Prod.ext hno.2 rfl))] at hr
  refine aMw s l hup h1 h2 _ _ _ he (.inl ?_) hr
  rwa [List.length_nil,Nat.zero_add] at hlt
 obtain⟨r,q1,q2,q3⟩:=aCs l s [] hs hc hl he
 obtain⟨t1,t2,t3⟩:=ok.ok he
 rw[List.nil_append] at q1
 have hcf:=Zm q3
 generalize hR:jP s l []=R at*
 have m1:=Zn r s R.2.1 [] q3
 have m2:=Xa r s R.2.1 [] q3
 have e2:nJ R.2.1 (R.2.2.1).reverse=(0,s,(r.map (·.2)).reverse,l.length):=by
  rw[nJ,if_pos t2,q1,m1,List.nil_append,List.length_nil,Nat.zero_add,q2]
 have hr2:=Wq R.2.1 (R.2.2.1).reverse t1 (fun o ho=>by
  rw[List.mem_reverse,q1] at ho
  obtain⟨x,hx,rfl⟩:=List.mem_map.1 ho
  exact(hcf x hx).1) (by rw[List.length_reverse,q1,List.length_map];omega)
 have hr3:=Wq s (r.map (·.2)) hs (fun o ho=>by
  obtain⟨x,hx,rfl⟩:=List.mem_map.1 ho
  exact(hcf x hx).2) (by rw[List.length_map];omega)
 have e3:nJ s (r.map (·.2))=jP s (r.map (·.2)) []:=by rw[nJ,if_pos hc]
 rw[e2] at hr2
 rw[e3,show jP s (r.map (·.2)) []=(0,R.2.1,(jP s (r.map (·.2)) []).2.2.1,(jP s (r.map (·.2)) []).2.2.2) from Prod.ext m2.1 (Prod.ext m2.2 rfl)] at hr3
 have e4:R=(0,R.2.1,R.2.2.1,l.length):=Prod.ext he (Prod.ext rfl (Prod.ext rfl (by rw[t3,q1,List.length_map,q2])))
 rw[e4] at hr
 exact aVr s l hup h1 h2 R.2.1 R.2.2.1 _ _ _ hr hr2 (by rw[List.reverse_reverse];exact hr3) (Oc hs hc) (Oc t1 t2)
end Go.Proofs.Pv
