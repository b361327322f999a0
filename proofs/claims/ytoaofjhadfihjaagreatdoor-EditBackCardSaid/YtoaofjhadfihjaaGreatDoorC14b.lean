/-
Plain laws on edits: what takes an edit back leaves the score that there was, and what takes that back the edited one.
Conditions: none but those that each statement names.
-/
import Derived.Test.YtoaofjhadfihjaaGreatDoorC13
import Derived.Test.YtoaofjhadfihjaaGreatDoorC14a
set_option linter.unusedVariables false
set_option linter.unusedSimpArgs false
set_option maxRecDepth 100000
set_option maxHeartbeats 16000000
namespace Go.Proofs.Pv
open Go Go.Proofs
theorem aOe {l es:List Ev} {a n:Nat} (h:a+n<=l.length):fZ (fZ l a n es) a es.length ((l.drop a).take n)=l:=by
 have h1:(l.take a).length=a:=by rw[List.length_take];omega
 have e1:(fZ l a n es).take a=l.take a:=by rw[fZ,List.append_assoc,List.take_left' h1]
 have e2:(fZ l a n es).drop (a+es.length)=l.drop (a+n):=by rw[fZ,List.drop_left' (by rw[List.length_append,h1])]
 rw[fZ,e1,e2,List.append_assoc,<-List.drop_drop,List.take_append_drop,List.take_append_drop]
theorem aQ8 {l es:List Ev} {a n:Nat} (h:a+n<=l.length):((fZ l a n es).drop a).take es.length=es:=by
 have h1:(l.take a).length=a:=by rw[List.length_take];omega
 rw[fZ,List.append_assoc,List.drop_left' h1,List.take_left' rfl]
theorem Vz {α:Type} {l es:List α} {b:Nat} (h:b<=l.length):gJ (insL l es b) b es.length=l:=by
 have h1:(l.take b).length=b:=by rw[List.length_take];omega
 have e1:(insL l es b).take b=l.take b:=by rw[insL,List.append_assoc,List.take_left' h1]
 have e2:(insL l es b).drop (b+es.length)=l.drop b:=by rw[insL,List.drop_left' (by rw[List.length_append,h1])]
 rw[gJ,e1,e2,List.take_append_drop]
theorem We {α:Type} {l es:List α} {b:Nat} (h:b<=l.length):jM b es.length (insL l es b)=es:=by
 have h1:(l.take b).length=b:=by rw[List.length_take];omega
 rw[jM,insL,List.append_assoc,List.drop_left' h1,List.take_left' rfl]
theorem Wh {α:Type} {l:List α} {b n:Nat} (h:b+n<=l.length):insL (gJ l b n) (jM b n l) b=l:=by
 have h1:(l.take b).length=b:=by rw[List.length_take];omega
 have e1:(gJ l b n).take b=l.take b:=by rw[gJ,List.take_left' h1]
 have e2:(gJ l b n).drop b=l.drop (b+n):=by rw[gJ,List.drop_left' h1]
 rw[insL,e1,e2,jM,List.append_assoc,<-List.drop_drop,List.take_append_drop,List.take_append_drop]
theorem Yg {α:Type} {l:List α} {b n:Nat} (h:b+n<=l.length):(jM b n l).length=n:=by simp only[jM,List.length_take,List.length_drop];omega
theorem yP {α:Type} {l:List α} {i:Nat} {d:α}:l.set i (l.getD i d)=l:=by
 by_cases h:i<l.length
 ·rw[getD_at h,List.set_getElem_self]
 ·rw[List.set_eq_of_length_le (by omega)]
def pV (s:Sc) (j:Nat) (f:Pa->Pa):Sc:= {s with parts:=s.parts.set j (f (s.parts.getD j pa0))}
theorem Pz {s:Sc} {j:Nat} {f:Pa->Pa}:(pV s j f).parts.length=s.parts.length:=List.length_set
theorem Nh {s:Sc} {j:Nat} {f:Pa->Pa} (h:j<s.parts.length):(pV s j f).parts.getD j pa0=f (s.parts.getD j pa0):=iW h
theorem Cj {s:Sc} {j:Nat} {f g:Pa->Pa} (h:j<s.parts.length):pV (pV s j f) j g=pV s j fun p=>g (f p):=by
 have h1:=Nh (f:=f) h
 simp only[pV] at h1 ⊢
 rw[h1,List.set_set]
theorem Cm {s:Sc} {j:Nat} {f:Pa->Pa} (h:f (s.parts.getD j pa0)=s.parts.getD j pa0):pV s j f=s:=by
 rw[pV,h,yP]
theorem aT3 {s:Sc} {j:Nat} {f g:Pa->Pa} (h:f (s.parts.getD j pa0)=g (s.parts.getD j pa0)):pV s j f=pV s j g:=by
 rw[pV,pV,h]
def Bo (s:Sc) (r:Ans):Prop:= ∃o',gG r.2.1 r.2.2=(0,s,o')/\ ∃b',gG s o'=(0,r.2.1,b')
theorem jP {n:Nat}:((n:Nat):Int).toNat=n:=Int.toNat_natCast n
theorem aSb {s:Sc} {o:aH} (j b v a n:Nat) (hk:o.kind=1) (hp:o.part=(j:Nat)) (hq:o.bar=(b:Nat)) (hv:o.voice=(v:Nat)) (ha:o.at_=(a:Nat)) (hn:o.count=(n:Nat)) (hj:j<s.parts.length) (hb:b<s.bars.length) (hvl:v< ((s.parts.getD j pa0).cells.getD b []).length) {l:List Ev} (hl:(((s.parts.getD j pa0).cells.getD b []).getD v ⟨[]⟩).l=l) (han:a+n<=l.length):
  gG s o=(0,kU s j b v (fZ l a n o.events),Bd o j b v a n l):=by
 have e1:o.j=j:=by rw[aH.j,hp,jP]
 have e2:o.b=b:=by rw[aH.b,hq,jP]
 have e3:o.v=v:=by rw[aH.v,hv,jP]
 have e4:o.a=a:=by rw[aH.a,ha,jP]
 have e5:o.n=n:=by rw[aH.n,hn,jP]
 have e6:o.cell s=(s.parts.getD j pa0).cells.getD b []:=by rw[aH.cell,e1,e2]
 have e7:o.vo s=l:=by rw[aH.vo,e6,e3,hl]
 have hd:gG s o=zK s o:=by simp [gG,hk]
 rw[hd,zK,if_pos ⟨⟨⟨by omega,by omega⟩,by omega,by omega⟩,⟨by omega,by rw[e6];omega⟩,by rw[e7];omega⟩,e1,e2,e3,e4,e5,e7]
theorem aSc {s:Sc} {o:aH} (b:Nat) (hk:o.kind=2) (hq:o.bar=(b:Nat)) (hb:b<=s.bars.length) (h1:mJ s.parts.length o.bars.length o.cells=true) (h2:mJ s.parts.length o.bars.length o.dyns=true):gG s o=(0,iL s o b,Hq o b):=by
 have e2:o.b=b:=by rw[aH.b,hq,jP]
 have hd:gG s o=Ai s o:=by simp [gG,hk]
 rw[hd,Ai,if_pos ⟨⟨by omega,by omega⟩,h1,h2⟩,e2]
theorem aOf {s:Sc} {o:aH} (b n:Nat) (hk:o.kind=3) (hq:o.bar=(b:Nat)) (hn:o.count=(n:Nat)) (hb:b+n<=s.bars.length):gG s o=(0,jS s b n,lJ s b n):=by
 have e2:o.b=b:=by rw[aH.b,hq,jP]
 have e5:o.n=n:=by rw[aH.n,hn,jP]
 have hd:gG s o=yB s o:=by simp [gG,hk]
 rw[hd,yB,if_pos ⟨by omega,by omega,by omega,by omega⟩,e2,e5]
theorem aOg {s:Sc} {o:aH} (b:Nat) (x:Ba) (hk:o.kind=4) (hq:o.bar=(b:Nat)) (hb:b<s.bars.length) (hx:o.bars=[x]):gG s o=(0,tX s b x,⟨4,0,b,0,0,0,[],[s.bars.getD b Iq],[],[],0,0,⟨#[]⟩⟩):=by
 have e2:o.b=b:=by rw[aH.b,hq,jP]
 have hd:gG s o=yC s o:=by simp [gG,hk]
 rw[hd,yC,if_pos ⟨⟨by omega,by omega⟩,by rw[hx];rfl⟩,e2,hx];rfl
theorem aOh {s:Sc} {o:aH} (j b:Nat) (x:List Dy) (hk:o.kind=5) (hp:o.part=(j:Nat)) (hq:o.bar=(b:Nat)) (hj:j<s.parts.length) (hb:b<s.bars.length) (hx:o.dyns=[[x]]):gG s o=(0,Eg s j b x,Qx s j b):=by
 have e1:o.j=j:=by rw[aH.j,hp,jP]
 have e2:o.b=b:=by rw[aH.b,hq,jP]
 have hd:gG s o=yD s o:=by simp [gG,hk]
 rw[hd,yD,if_pos ⟨⟨⟨by omega,by omega⟩,by omega,by omega⟩,by rw[hx];rfl,by rw[hx];rfl⟩,e1,e2,hx];rfl
theorem aOi {s:Sc} {o:aH} (j b v:Nat) (x:Vo) (hk:o.kind=6) (hp:o.part=(j:Nat)) (hq:o.bar=(b:Nat)) (hv:o.voice=(v:Nat)) (hj:j<s.parts.length) (hb:b<s.bars.length) (hvl:v<=((s.parts.getD j pa0).cells.getD b []).length) (hx:o.cells=[[[x]]]):gG s o=(0,pJ s j b v x,Nw j b v):=by
 have e1:o.j=j:=by rw[aH.j,hp,jP]
 have e2:o.b=b:=by rw[aH.b,hq,jP]
 have e3:o.v=v:=by rw[aH.v,hv,jP]
 have e6:o.cell s=(s.parts.getD j pa0).cells.getD b []:=by rw[aH.cell,e1,e2]
 have hd:gG s o=xC s o:=by simp [gG,hk]
 rw[hd,xC,if_pos ⟨⟨⟨by omega,by omega⟩,by omega,by omega⟩,⟨by omega,by rw[e6];omega⟩,by rw[hx];rfl,by rw[hx];rfl,by rw[hx];rfl⟩,e1,e2,e3,hx];rfl
theorem aI0 {s:Sc} {o:aH} (j b v:Nat) (hk:o.kind=7) (hp:o.part=(j:Nat)) (hq:o.bar=(b:Nat)) (hv:o.voice=(v:Nat)) (hj:j<s.parts.length) (hb:b<s.bars.length) (hvl:v< ((s.parts.getD j pa0).cells.getD b []).length):gG s o=(0,nI s j b v,Kv j b v (((s.parts.getD j pa0).cells.getD b []).getD v ⟨[]⟩)):=by
 have e1:o.j=j:=by rw[aH.j,hp,jP]
 have e2:o.b=b:=by rw[aH.b,hq,jP]
 have e3:o.v=v:=by rw[aH.v,hv,jP]
 have e6:o.cell s=(s.parts.getD j pa0).cells.getD b []:=by rw[aH.cell,e1,e2]
 have hd:gG s o=sO s o:=by simp [gG,hk]
 rw[hd,sO,if_pos ⟨⟨⟨by omega,by omega⟩,by omega,by omega⟩,by omega,by rw[e6];omega⟩,e1,e2,e3,e6]
theorem aOj {s:Sc} {o:aH} (hk:o.kind=9):gG s o=(0,Ls s o,Vt s):=by simp [gG,hk]
section
variable {s:Sc} {o:aH} (hr:Right s)
include hr
theorem cells_at {j b:Nat} (hj:j<s.parts.length) (hb:b<s.bars.length):b< (s.parts.getD j pa0).cells.length:=by
 have:=(hr.len _ (getD_mem (d:=pa0) hj)).1;omega
theorem back1 (h:(zK s o).1=0):Bo s (zK s o):=by
 unfold zK at h ⊢
 split
 rotate_left
 ·rename_i h1
  rw[if_neg h1] at h
  exact absurd h (show¬(90:Int)=0 by decide)
 rename_i h1
 obtain⟨⟨⟨p0,p1⟩,b0,b1⟩,⟨v0,v1⟩,h3⟩:=h1
 have hj:o.j<s.parts.length:=by simp only[aH.j];omega
 have hb:o.b<s.bars.length:=by simp only[aH.b];omega
 have hv:o.v< (o.cell s).length:=by simp only[aH.v];omega
 have hbc:=cells_at hr hj hb
 have han:o.a+o.n<=(o.vo s).length:=by simp only[aH.a,aH.n];omega
 have hput: ∀l,kU s o.j o.b o.v l=pV s o.j fun p=>tJ p o.b o.v l:=fun _=>rfl
 have hat: ∀l,(kU s o.j o.b o.v l).parts.getD o.j pa0=tJ (s.parts.getD o.j pa0) o.b o.v l:=fun l=>Jj hj
 have hce: ∀l,((kU s o.j o.b o.v l).parts.getD o.j pa0).cells.getD o.b []=(o.cell s).set o.v ⟨l⟩:=fun l=>by rw[hat,Jk hbc];rfl
 have hput2: ∀l l',kU (kU s o.j o.b o.v l) o.j o.b o.v l'=kU s o.j o.b o.v l':=fun l l'=>by
  rw[hput l,show kU (pV s o.j fun p=>tJ p o.b o.v l) o.j o.b o.v l'=pV (pV s o.j fun p=>tJ p o.b o.v l) o.j fun p=>tJ p o.b o.v l' from rfl,Cj hj,hput]
  refine aT3 ?_
  simp only[tJ]
  rw[iW hbc,List.set_set,List.set_set]
 have hsame:kU s o.j o.b o.v (o.vo s)=s:=by
  rw[hput]
  refine Cm ?_
  simp only[tJ]
  rw[show(⟨o.vo s⟩:Vo)=((s.parts.getD o.j pa0).cells.getD o.b []).getD o.v ⟨[]⟩ from rfl,yP,yP]
 have hl1:(fZ (o.vo s) o.a o.n o.events).length=(o.vo s).length - o.n+o.events.length:=by simp only[fZ,List.length_append,List.length_take,List.length_drop];omega
 have m1:=aSb (s:=kU s o.j o.b o.v (fZ (o.vo s) o.a o.n o.events)) (o:=Bd o o.j o.b o.v o.a o.n (o.vo s)) o.j o.b o.v o.a o.events.length rfl rfl rfl rfl rfl rfl (by rw[zB];exact hj) hb (by rw[hce,List.length_set];exact hv) (l:=fZ (o.vo s) o.a o.n o.events) (by rw[hce,iW hv]) (by omega)
 rw[hput2,show(Bd o o.j o.b o.v o.a o.n (o.vo s)).events=((o.vo s).drop o.a).take o.n from rfl,aOe han,hsame] at m1
 refine⟨_,m1,?_⟩
 have hcl:(((o.vo s).drop o.a).take o.n).length=o.n:=by rw[List.length_take,List.length_drop];omega
 have m2:=aSb (s:=s) (o:=Bd (Bd o o.j o.b o.v o.a o.n (o.vo s)) o.j o.b o.v o.a o.events.length (fZ (o.vo s) o.a o.n o.events)) o.j o.b o.v o.a o.n rfl rfl rfl rfl rfl (by show((((o.vo s).drop o.a).take o.n).length:Int)=_;rw[hcl]) hj hb hv (l:=o.vo s) rfl han
 rw[show(Bd (Bd o o.j o.b o.v o.a o.n (o.vo s)) o.j o.b o.v o.a o.events.length (fZ (o.vo s) o.a o.n o.events)).events=o.events from aQ8 han] at m2
 exact⟨_,m2⟩
omit hr in
theorem y5 {α:Type} {np nb:Nat} {l:List (List α)} (h:mJ np nb l=true):l.length=np/\ ∀i (hi:i<l.length),l[i].length=nb:=by
 refine⟨?_,fun i hi=>aBt h i hi⟩
 have:=h
 simp [mJ] at this;omega
omit hr in
theorem y7 {g:Nat->Pa->Pa} {ps:List Pa} (h: ∀j (hj:j<ps.length),g j ps[j]=ps[j]):ps.mapIdx g=ps:=by
 refine List.ext_getElem List.length_mapIdx fun j h1 h2=>?_
 rw[List.getElem_mapIdx,h j h2]
theorem back2 (h:(Ai s o).1=0):Bo s (Ai s o):=by
 unfold Ai at h ⊢
 split
 rotate_left
 ·rename_i h1
  rw[if_neg h1] at h
  exact absurd h (show¬(90:Int)=0 by decide)
 rename_i h1
 obtain⟨⟨b0,b1⟩,f1,f2⟩:=h1
 have hb:o.b<=s.bars.length:=by simp only[aH.b];omega
 obtain⟨c1,c2⟩:=y5 f1
 obtain⟨d1,d2⟩:=y5 f2
 have m1:=aOf (s:=iL s o o.b) (o:=Hq o o.b) o.b o.bars.length rfl rfl rfl (by show o.b+o.bars.length<=(insL s.bars o.bars o.b).length;rw[rO hb];omega)
 have hcd: ∀j (hj:j<s.parts.length),o.b<=s.parts[j].cells.length/\o.b<=s.parts[j].dyns.length/\(o.cells.getD j []).length=o.bars.length/\(o.dyns.getD j []).length=o.bars.length:=fun j hj=>by
  have:=hr.len _ (List.getElem_mem hj)
  refine⟨by omega,by omega,?_,?_⟩
  ·rw[getD_at (by omega)];exact c2 j (by omega)
  ·rw[getD_at (by omega)];exact d2 j (by omega)
 have hsame:jS (iL s o o.b) o.b o.bars.length=s:=by
  have e1:gJ (insL s.bars o.bars o.b) o.b o.bars.length=s.bars:=Vz hb
  have e2:(s.parts.mapIdx (Eh o o.b)).mapIdx (fun _ p=>p.del o.b o.bars.length)=s.parts:=by
   rw[List.mapIdx_mapIdx]
   refine y7 fun j hj=>?_
   obtain⟨q1,q2,q3,q4⟩:=hcd j hj
   have x1:=Vz (l:=s.parts[j].cells) (es:=o.cells.getD j []) q1
   have x2:=Vz (l:=s.parts[j].dyns) (es:=o.dyns.getD j []) q2
   rw[q3] at x1
   rw[q4] at x2
   simp only[Function.comp,Eh,Pa.ins,Pa.del,x1,x2]
  simp only[jS,iL,e1,e2]
 rw[hsame] at m1
 refine⟨_,m1,?_⟩
 have e3:(lJ (iL s o o.b) o.b o.bars.length).bars=o.bars:=We hb
 have e4:(lJ (iL s o o.b) o.b o.bars.length).cells=o.cells:=by
  show((s.parts.mapIdx (Eh o o.b)).map fun p=>jM o.b o.bars.length p.cells)=o.cells
  refine List.ext_getElem (by rw[List.length_map,List.length_mapIdx,c1]) fun j h1 h2=>?_
  rw[List.getElem_map,List.getElem_mapIdx]
  obtain⟨q1,q2,q3,q4⟩:=hcd j (by omega)
  have x1:=We (l:=s.parts[j].cells) (es:=o.cells.getD j []) q1
  rw[q3] at x1
  simp only[Eh,Pa.ins,x1]
  exact getD_at h2
 have e5:(lJ (iL s o o.b) o.b o.bars.length).dyns=o.dyns:=by
  show((s.parts.mapIdx (Eh o o.b)).map fun p=>jM o.b o.bars.length p.dyns)=o.dyns
  refine List.ext_getElem (by rw[List.length_map,List.length_mapIdx,d1]) fun j h1 h2=>?_
  rw[List.getElem_map,List.getElem_mapIdx]
  obtain⟨q1,q2,q3,q4⟩:=hcd j (by omega)
  have x1:=We (l:=s.parts[j].dyns) (es:=o.dyns.getD j []) q2
  rw[q4] at x1
  simp only[Eh,Pa.ins,x1]
  exact getD_at h2
 have m2:=aSc (s:=s) (o:=lJ (iL s o o.b) o.b o.bars.length) o.b rfl rfl hb (by rw[e3,e4];exact f1) (by rw[e3,e5];exact f2)
 have e6:iL s (lJ (iL s o o.b) o.b o.bars.length) o.b=iL s o o.b:=by
  have e7:Eh (lJ (iL s o o.b) o.b o.bars.length) o.b=Eh o o.b:=by
   funext j p
   simp only[Eh,e4,e5]
  show(⟨s.title,insL s.bars (lJ (iL s o o.b) o.b o.bars.length).bars o.b,s.parts.mapIdx (Eh (lJ (iL s o o.b) o.b o.bars.length) o.b)⟩:Sc)=_
  rw[e3,e7]
  rfl
 rw[e6] at m2
 exact⟨_,m2⟩
omit hr in
theorem aI1 {α:Type} {np nb:Nat} {l:List (List α)} (h:l.length=np) (h2: ∀x∈l,x.length=nb):mJ np nb l=true:=by
 simp only[mJ,Bool.and_eq_true,decide_eq_true_eq,Bool.not_eq_true',List.any_eq_false]
 exact⟨by omega,fun x hx=>by rw[h2 x hx];simp⟩
theorem back3 (h:(yB s o).1=0):Bo s (yB s o):=by
 unfold yB at h ⊢
 split
 rotate_left
 ·rename_i h1
  rw[if_neg h1] at h
  exact absurd h (show¬(90:Int)=0 by decide)
 rename_i h1
 have hb:o.b+o.n<=s.bars.length:=by simp only[aH.b,aH.n];omega
 obtain⟨b,hbe⟩: ∃b,o.b=b:=⟨_,rfl⟩
 obtain⟨n,hne⟩: ∃n,o.n=n:=⟨_,rfl⟩
 rw[hbe,hne] at hb ⊢
 have hlen: ∀p∈s.parts,b+n<=p.cells.length/\b+n<=p.dyns.length:=fun p hp=>by have:=hr.len p hp;omega
 have hcut:(jM b n s.bars).length=n:=Yg hb
 have hpl:(jS s b n).parts.length=s.parts.length:=List.length_mapIdx
 have hbl:(jS s b n).bars.length=s.bars.length - n:=by
  show(gJ s.bars b n).length=_
  simp only[gJ,List.length_append,List.length_take,List.length_drop];omega
 have m1:=aSc (s:=jS s b n) (o:=lJ s b n) b rfl rfl (by rw[hbl];omega)
  (aI1 (by rw[hpl];exact List.length_map _) fun x hx=>by
   obtain⟨p,hp,rfl⟩:=List.mem_map.1 hx
   rw[show(lJ s b n).bars.length=n from hcut];exact Yg (hlen p hp).1)
  (aI1 (by rw[hpl];exact List.length_map _) fun x hx=>by
   obtain⟨p,hp,rfl⟩:=List.mem_map.1 hx
   rw[show(lJ s b n).bars.length=n from hcut];exact Yg (hlen p hp).2)
 have e2:(s.parts.mapIdx fun _ p=>p.del b n).mapIdx (Eh (lJ s b n) b)=s.parts:=by
  rw[List.mapIdx_mapIdx]
  refine y7 fun j hj=>?_
  have hm:=List.getElem_mem hj
  have x1:(lJ s b n).cells.getD j []=jM b n s.parts[j].cells:=by
   show(s.parts.map fun p=>jM b n p.cells).getD j []=_
   rw[getD_at (by rw[List.length_map];exact hj),List.getElem_map]
  have x2:(lJ s b n).dyns.getD j []=jM b n s.parts[j].dyns:=by
   show(s.parts.map fun p=>jM b n p.dyns).getD j []=_
   rw[getD_at (by rw[List.length_map];exact hj),List.getElem_map]
  have y1:=Wh (hlen _ hm).1
  have y2:=Wh (hlen _ hm).2
  simp only[Function.comp,Eh,Pa.ins,Pa.del,x1,x2,y1,y2]
 have e3:iL (jS s b n) (lJ s b n) b=s:=by
  show(⟨s.title,insL (gJ s.bars b n) (jM b n s.bars) b,(s.parts.mapIdx fun _ p=>p.del b n).mapIdx (Eh (lJ s b n) b)⟩:Sc)=s
  rw[Wh hb,e2]
 rw[e3] at m1
 exact⟨_,m1,_,aOf (s:=s) (o:=Hq (lJ s b n) b) b n rfl rfl (by show((jM b n s.bars).length:Int)=_;rw[hcut]) hb⟩
omit hr in
theorem back4 (h:(yC s o).1=0):Bo s (yC s o):=by
 unfold yC at h ⊢
 split
 rotate_left
 ·rename_i h1
  rw[if_neg h1] at h
  exact absurd h (show¬(90:Int)=0 by decide)
 rename_i h1
 have hb:o.b<s.bars.length:=by simp only[aH.b];omega
 obtain⟨b,hbe⟩: ∃b,o.b=b:=⟨_,rfl⟩
 obtain⟨x,hx⟩: ∃x,o.bars.getD 0 Iq=x:=⟨_,rfl⟩
 rw[hbe] at hb ⊢
 rw[hx]
 have m1:=aOg (s:=tX s b x) (o:=⟨4,0,b,0,0,0,[],[s.bars.getD b Iq],[],[],0,0,⟨#[]⟩⟩) b (s.bars.getD b Iq) rfl rfl (by show b< (s.bars.set b x).length;rw[List.length_set];exact hb) rfl
 have e1:tX (tX s b x) b (s.bars.getD b Iq)=s:=by
  show(⟨s.title,(s.bars.set b x).set b (s.bars.getD b Iq),s.parts⟩:Sc)=s
  rw[List.set_set,yP]
 have e2:(tX s b x).bars.getD b Iq=x:=iW hb
 rw[e1,e2] at m1
 exact⟨_,m1,_,aOg (s:=s) b x rfl rfl hb rfl⟩
theorem back5 (h:(yD s o).1=0):Bo s (yD s o):=by
 unfold yD at h ⊢
 split
 rotate_left
 ·rename_i h1
  rw[if_neg h1] at h
  exact absurd h (show¬(90:Int)=0 by decide)
 rename_i h1
 obtain⟨⟨⟨p0,p1⟩,b0,b1⟩,_⟩:=h1
 have hj:o.j<s.parts.length:=by simp only[aH.j];omega
 have hb:o.b<s.bars.length:=by simp only[aH.b];omega
 obtain⟨b,hbe⟩: ∃b,o.b=b:=⟨_,rfl⟩
 obtain⟨j,hje⟩: ∃j,o.j=j:=⟨_,rfl⟩
 obtain⟨x,hx⟩: ∃x,(o.dyns.getD 0 []).getD 0 []=x:=⟨_,rfl⟩
 rw[hbe] at hb ⊢
 rw[hje] at hj ⊢
 rw[hx]
 have hbd:b< (s.parts.getD j pa0).dyns.length:=by have:=(hr.len _ (getD_mem (d:=pa0) hj)).2;omega
 have hd: ∀y,Eg s j b y=pV s j fun p=> {p with dyns:=p.dyns.set b y}:=fun _=>rfl
 have m1:=aOh (s:=Eg s j b x) (o:=Qx s j b) j b ((s.parts.getD j pa0).dyns.getD b []) rfl rfl rfl (by rw[hd,Pz];exact hj) hb rfl
 have e1:Eg (Eg s j b x) j b ((s.parts.getD j pa0).dyns.getD b [])=s:=by
  rw[hd x]
  show pV (pV s j fun p=> {p with dyns:=p.dyns.set b x}) j (fun p=> {p with dyns:=p.dyns.set b ((s.parts.getD j pa0).dyns.getD b [])})=s
  rw[Cj hj]
  refine Cm ?_
  simp only[List.set_set,yP]
 have e2:((Eg s j b x).parts.getD j pa0).dyns.getD b []=x:=by
  rw[hd,Nh hj];exact iW hbd
 rw[e1] at m1
 exact⟨_,m1,_,aOh (s:=s) j b x rfl rfl rfl hj hb (by show [[((Eg s j b x).parts.getD j pa0).dyns.getD b []]]=_;rw[e2])⟩
theorem back6 (h:(xC s o).1=0):Bo s (xC s o):=by
 unfold xC at h ⊢
 split
 rotate_left
 ·rename_i h1
  rw[if_neg h1] at h
  exact absurd h (show¬(90:Int)=0 by decide)
 rename_i h1
 obtain⟨⟨⟨p0,p1⟩,b0,b1⟩,⟨v0,v1⟩,_⟩:=h1
 have hj:o.j<s.parts.length:=by simp only[aH.j];omega
 have hb:o.b<s.bars.length:=by simp only[aH.b];omega
 have hv:o.v<=(o.cell s).length:=by simp only[aH.v];omega
 have hce:o.cell s=(s.parts.getD o.j pa0).cells.getD o.b []:=rfl
 rw[hce] at hv
 obtain⟨b,hbe⟩: ∃b,o.b=b:=⟨_,rfl⟩
 obtain⟨j,hje⟩: ∃j,o.j=j:=⟨_,rfl⟩
 obtain⟨v,hve⟩: ∃v,o.v=v:=⟨_,rfl⟩
 obtain⟨x,hx⟩: ∃x,((o.cells.getD 0 []).getD 0 []).getD 0 ⟨[]⟩=x:=⟨_,rfl⟩
 rw[hbe,hje,hve] at hv
 rw[hbe] at hb
 rw[hje] at hj
 rw[hbe,hje,hve,hx]
 have hbc:=cells_at hr hj hb
 have hd: ∀s y,pJ s j b v y=pV s j fun p=> {p with cells:=p.cells.set b (insL (p.cells.getD b []) [y] v)}:=fun _ _=>rfl
 have hd2: ∀s,nI s j b v=pV s j fun p=> {p with cells:=p.cells.set b (gJ (p.cells.getD b []) v 1)}:=fun _=>rfl
 have ht:((pJ s j b v x).parts.getD j pa0).cells.getD b []=insL ((s.parts.getD j pa0).cells.getD b []) [x] v:=by
  rw[hd,Nh hj];exact iW hbc
 have m1:=aI0 (s:=pJ s j b v x) (o:=Nw j b v) j b v rfl rfl rfl rfl (by rw[hd,Pz];exact hj) hb (by rw[ht,rO hv];simp only[List.length_cons,List.length_nil];omega)
 have e1:nI (pJ s j b v x) j b v=s:=by
  rw[hd2,hd,Cj hj]
  refine Cm ?_
  have:=Vz (es:=[x]) hv
  simp only[List.length_cons,List.length_nil,Nat.zero_add] at this
  simp only[iW hbc,List.set_set,this,yP]
 have e2:(insL ((s.parts.getD j pa0).cells.getD b []) [x] v).getD v ⟨[]⟩=x:=by
  have:=We (es:=[x]) hv
  simp only[List.length_cons,List.length_nil,Nat.zero_add,jM] at this
  rw[getD_at (by rw[rO hv];simp only[List.length_cons,List.length_nil];omega)]
  have h2:=congrArg (fun l=>l[0]?) this
  simp only[List.getElem?_take,List.getElem?_drop,Nat.add_zero,List.getElem?_cons_zero] at h2
  rw[if_pos (by omega)] at h2
  exact(List.getElem?_eq_some_iff.1 h2).2
 rw[ht,e1,e2] at m1
 exact⟨_,m1,_,aOi (s:=s) j b v x rfl rfl rfl rfl hj hb hv rfl⟩
theorem back7 (h:(sO s o).1=0):Bo s (sO s o):=by
 unfold sO at h ⊢
 split
 rotate_left
 ·rename_i h1
  rw[if_neg h1] at h
  exact absurd h (show¬(90:Int)=0 by decide)
 rename_i h1
 obtain⟨⟨⟨p0,p1⟩,b0,b1⟩,v0,v1⟩:=h1
 have hj:o.j<s.parts.length:=by simp only[aH.j];omega
 have hb:o.b<s.bars.length:=by simp only[aH.b];omega
 have hv:o.v< (o.cell s).length:=by simp only[aH.v];omega
 have hce:o.cell s=(s.parts.getD o.j pa0).cells.getD o.b []:=rfl
 rw[hce] at hv ⊢
 obtain⟨b,hbe⟩: ∃b,o.b=b:=⟨_,rfl⟩
 obtain⟨j,hje⟩: ∃j,o.j=j:=⟨_,rfl⟩
 obtain⟨v,hve⟩: ∃v,o.v=v:=⟨_,rfl⟩
 rw[hbe,hje,hve] at hv
 rw[hbe] at hb
 rw[hje] at hj
 rw[hbe,hje,hve]
 have hbc:=cells_at hr hj hb
 obtain⟨x,hx⟩: ∃x,((s.parts.getD j pa0).cells.getD b []).getD v ⟨[]⟩=x:=⟨_,rfl⟩
 rw[hx]
 have hd: ∀s y,pJ s j b v y=pV s j fun p=> {p with cells:=p.cells.set b (insL (p.cells.getD b []) [y] v)}:=fun _ _=>rfl
 have hd2: ∀s,nI s j b v=pV s j fun p=> {p with cells:=p.cells.set b (gJ (p.cells.getD b []) v 1)}:=fun _=>rfl
 have ht:((nI s j b v).parts.getD j pa0).cells.getD b []=gJ ((s.parts.getD j pa0).cells.getD b []) v 1:=by
  rw[hd2,Nh hj];exact iW hbc
 have hdl:(gJ ((s.parts.getD j pa0).cells.getD b []) v 1).length=((s.parts.getD j pa0).cells.getD b []).length - 1:=by
  simp only[gJ,List.length_append,List.length_take,List.length_drop];omega
 have m1:=aOi (s:=nI s j b v) (o:=Kv j b v x) j b v x rfl rfl rfl rfl (by rw[hd2,Pz];exact hj) hb (by rw[ht,hdl];omega) rfl
 have hcx:jM v 1 ((s.parts.getD j pa0).cells.getD b [])=[x]:=by
  rw[<-hx,getD_at hv,jM,List.drop_eq_getElem_cons hv];rfl
 have e1:pJ (nI s j b v) j b v x=s:=by
  rw[hd2,hd,Cj hj]
  refine Cm ?_
  have:=Wh (l:=(s.parts.getD j pa0).cells.getD b []) (b:=v) (n:=1) (by omega)
  rw[hcx] at this
  simp only[iW hbc,List.set_set,this,yP]
 rw[e1] at m1
 exact⟨_,m1,_,aI0 (s:=s) j b v rfl rfl rfl rfl hj hb hv⟩
end
end Go.Proofs.Pv
namespace Go.Proofs.Pv
open Go Go.Proofs
theorem no20 {P:Prop} (h:(20:Int)=0):P:=absurd h (by decide)
theorem aH5 {p:Pi} {st ha:Int} (h:(p.up st ha).2=0):(p.up st ha).1.up (-st) (-ha)=(p,0):=by
 unfold Pi.up at h
 split at h
 ·exact no20 h
 rename_i h1
 have h1:=Classical.not_not.1 h1
 split at h
 ·exact no20 h
 rename_i h2
 split at h
 rotate_left
 ·exact no20 h
 rename_i h3
 obtain⟨hr,a1,a2,a3,a4⟩:=h1
 have e0:p.up st ha=(⟨(p.upq st).step,p.number+ha - (p.upq st).number,(p.upq st).octave⟩,0):=by rw[Pi.up,if_neg (fun h=>h ⟨hr,a1,a2,a3,a4⟩),if_neg h2,if_pos h3]
 rw[e0]
 have hf:p.fits=true:=by simp only[Pi.right,Bool.and_eq_true] at hr;exact hr.1
 simp only[Pi.fits,decide_eq_true_eq] at hf
 have hm:(p.line+st+7).tmod 7=(p.line+st+7) % 7:=Int.tmod_eq_emod_of_nonneg (by omega)
 have hd:(p.line+st+7).tdiv 7=(p.line+st+7) / 7:=Int.tdiv_eq_ediv_of_nonneg (by omega)
 obtain⟨q,hq⟩: ∃q:Pi,(⟨(p.upq st).step,p.number+ha - (p.upq st).number,(p.upq st).octave⟩:Pi)=q:=⟨_,rfl⟩
 rw[hq] at h3
 simp only[hq]
 have q1:q.step=(p.line+st+7) % 7:=by rw[<-hq,<-hm];rfl
 have q2:q.octave=(p.line+st+7) / 7 - 1:=by rw[<-hq,<-hd];rfl
 have q3:q.alter=p.number+ha - (12*(q.octave+1)+half q.step+0):=by rw[<-hq];rfl
 have ql0:q.line=7*q.octave+q.step:=rfl
 have ql:q.line=p.line+st:=by omega
 have qn0:q.number=12*(q.octave+1)+half q.step+q.alter:=rfl
 have qn:q.number=p.number+ha:=by omega
 have pl:p.line=7*p.octave+p.step:=rfl
 have pn:p.number=12*(p.octave+1)+half p.step+p.alter:=rfl
 have u:q.upq (-st)=⟨p.step,0,p.octave⟩:=by
  have e1:p.line+st+ -st+7=p.line+7:=by omega
  rw[Pi.upq,ql,e1,Int.tmod_eq_emod_of_nonneg (by omega),Int.tdiv_eq_ediv_of_nonneg (by omega)]
  have e2:(p.line+7) % 7=p.step:=by omega
  have e3:(p.line+7) / 7 - 1=p.octave:=by omega
  rw[e2,e3]
 have w:(⟨(q.upq (-st)).step,q.number+ -ha - (q.upq (-st)).number,(q.upq (-st)).octave⟩:Pi)=p:=by
  have e4:q.number+ -ha - (q.upq (-st)).number=p.alter:=by
   rw[u,show(⟨p.step,0,p.octave⟩:Pi).number=12*(p.octave+1)+half p.step+0 from rfl];omega
  rw[e4,u]
 rw[Pi.up,if_neg (fun h=>h ⟨h3,by omega,by omega,by omega,by omega⟩),if_neg (by rw[ql];omega),w,if_pos hr]
theorem aH6 {e:Ev} {st ha:Int} (h:(e.up st ha).2=0):(e.up st ha).1.up (-st) (-ha)=(e,0):=by
 unfold Ev.up at h
 split at h
 rotate_left
 ·exact absurd h (show¬(60:Int)=0 by decide)
 rename_i h1
 split at h
 ·exact no20 h
 rename_i h2
 split at h
 rotate_left
 ·exact absurd h (show¬(60:Int)=0 by decide)
 rename_i h3
 have e0:e.up st ha=(e.upE st ha,0):=by rw[Ev.up,if_pos h1,if_neg h2,if_pos h3]
 have hp: ∀p∈e.pitches,(p.up st ha).2=0:=fun p hp=>by
  simp only[Bi,List.any_eq_true,not_exists,not_and,Bool.not_eq_true',decide_eq_false_iff_not,Bool.not_eq_true,Bool.not_eq_false',decide_eq_true_eq] at h2
  exact Classical.not_not.1 (h2 p hp)
 have hb:Bi (-st) (-ha) (e.upE st ha).pitches=false:=by
  rw[Bi,List.any_eq_false]
  intro q hq
  obtain⟨p,hp1,rfl⟩:=List.mem_map.1 hq
  rw[aH5 (hp p hp1)];simp
 have hu:(e.upE st ha).upE (-st) (-ha)=e:=by
  have:(e.pitches.map fun p=>(p.up st ha).1).map (fun p=>(p.up (-st) (-ha)).1)=e.pitches:=by
   rw[List.map_map]
   refine(List.map_congr_left fun p hp1=>?_).trans (List.map_id _)
   show((p.up st ha).1.up (-st) (-ha)).1=id p
   rw[aH5 (hp p hp1)];rfl
  show({e with pitches:=(e.pitches.map fun p=>(p.up st ha).1).map (fun p=>(p.up (-st) (-ha)).1)}:Ev)=e
  rw[this]
 rw[e0]
 show(e.upE st ha).up (-st) (-ha)=(e,0)
 rw[Ev.up,if_pos h3,hb,hu,if_pos h1];rfl
def upV (st ha:Int) (x:Vo):Vo:=⟨x.l.map fun e=>(e.up st ha).1⟩
def Dn (st ha:Int) (cs:List (List Vo)):List (List Vo):=cs.map fun c=>c.map (upV st ha)
theorem Vj {st ha:Int} {cs:List (List Vo)}:gU st ha (fun _ _ _=>true) cs=Dn st ha cs:=by
 refine List.ext_getElem (by rw[kN,Dn,List.length_map]) fun i h1 h2=>?_
 rw[qJ]
 simp only[Dn,List.getElem_map]
 refine List.ext_getElem (by rw[List.length_mapIdx,List.length_map]) fun j h3 h4=>?_
 rw[List.getElem_mapIdx,List.getElem_map,vW,upV]
 congr 1
 refine List.ext_getElem (by rw[List.length_mapIdx,List.length_map]) fun k h5 h6=>?_
 rw[List.getElem_mapIdx,List.getElem_map];rfl
theorem aMb {st ha:Int} {cs:List (List Vo)} (h:eY st ha cs=0): ∀e∈wL cs,(e.up st ha).2=0:=by
 intro e he
 rw[eY] at h
 cases hf:(wL cs).find? fun e=>decide ((e.up st ha).2≠0) with
 |none=>
  have:=List.find?_eq_none.1 hf e he
  simpa using this
 |some x=>
  rw[hf] at h
  have:=List.find?_some hf
  simp only[Option.map_some,Option.getD_some] at h
  simp only[h] at this
  exact absurd this (by decide)
theorem aJo {st ha:Int} {cs:List (List Vo)} (h: ∀e∈wL cs,(e.up st ha).2=0):eY st ha cs=0:=by
 rw[eY,List.find?_eq_none.2 fun e he=>by simp [h e he]];rfl
theorem aBa {cs:List (List Vo)} {e:Ev}:e∈wL cs↔ ∃c∈cs,∃v∈c,e∈v.l:=by
 simp only[wL,List.mem_flatMap]
theorem aH7 {st ha:Int} {cs:List (List Vo)} (h:eY st ha cs=0):Dn (-st) (-ha) (Dn st ha cs)=cs/\eY (-st) (-ha) (Dn st ha cs)=0:=by
 have ha:=aMb h
 constructor
 ·rw[Dn,Dn,List.map_map]
  refine(List.map_congr_left fun c hc=>?_).trans (List.map_id _)
  show(c.map _).map _=c
  rw[List.map_map]
  refine(List.map_congr_left fun v hv=>?_).trans (List.map_id _)
  show(⟨(v.l.map _).map _⟩:Vo)=v
  have:(v.l.map fun e=>(e.up st ‹Int›).1).map (fun e=>(e.up (-st) (-‹Int›)).1)=v.l:=by
   rw[List.map_map]
   refine(List.map_congr_left fun e he=>?_).trans (List.map_id _)
   show((e.up st _).1.up (-st) _).1=e
   rw[aH6 (ha e (aBa.2 ⟨c,hc,v,hv,he⟩))]
  rw[this]
 ·refine aJo fun e he=>?_
  obtain⟨c',hc',v',hv',he'⟩:=aBa.1 he
  obtain⟨c,hc,rfl⟩:=List.mem_map.1 hc'
  obtain⟨v,hv,rfl⟩:=List.mem_map.1 hv'
  obtain⟨e0,he0,rfl⟩:=List.mem_map.1 he'
  rw[aH6 (ha e0 (aBa.2 ⟨c,hc,v,hv,he0⟩))]
theorem aEt {k:Ke} {st ha:Int} (h:(k.up st ha).2=0):(k.up st ha).1.up (-st) (-ha)=(k,0):=by
 unfold Ke.up at h
 split at h
 rotate_left
 ·exact absurd h (show¬(30:Int)=0 by decide)
 rename_i h1
 split at h
 rotate_left
 ·exact absurd h (show¬(30:Int)=0 by decide)
 rename_i h2
 have e0:k.up st ha=(⟨k.fifths+7*ha - 12*st,k.minor⟩,0):=by rw[Ke.up,if_pos h1,if_pos h2]
 rw[e0]
 have w:(⟨k.fifths+7*ha - 12*st+7* -ha - 12* -st,k.minor⟩:Ke)=k:=by
  rw[show k.fifths+7*ha - 12*st+7* -ha - 12* -st=k.fifths by omega]
 show Ke.up ⟨k.fifths+7*ha - 12*st,k.minor⟩ (-st) (-ha)=(k,0)
 rw[Ke.up,if_pos h2]
 show(if(⟨k.fifths+7*ha - 12*st+7* -ha - 12* -st,k.minor⟩:Ke).right=true then((⟨k.fifths+7*ha - 12*st+7* -ha - 12* -st,k.minor⟩:Ke),(0:Int)) else(⟨0,false⟩,30))=(k,0)
 rw[w,if_pos h1]
theorem aCa {α:Type} {f:α->Int} {l:List α} (h:sW f l=0): ∀x∈l,f x=0:=by
 intro x hx
 rw[sW] at h
 cases hf:l.find? fun x=>decide (f x≠0) with
 |none=>
  have:=List.find?_eq_none.1 hf x hx
  simpa using this
 |some y=>
  rw[hf] at h
  have:=List.find?_some hf
  simp only[Option.map_some,Option.getD_some] at h
  simp only[h] at this
  exact absurd this (by decide)
theorem Yw {α:Type} {f:α->Int} {l:List α} (h: ∀x∈l,f x=0):sW f l=0:=Xn fun j hj=>h _ (List.getElem_mem hj)
theorem aH8 {st ha:Int} {p:Pa} (h:Rf st ha p=0):(p.up st ha).up (-st) (-ha)=p/\Rf (-st) (-ha) (p.up st ha)=0:=by
 obtain⟨h1,h2⟩:=aH7 h
 constructor
 ·show({p with cells:=gU (-st) (-ha) (fun _ _ _=>true) (gU st ha (fun _ _ _=>true) p.cells)}:Pa)=p
  rw[Vj,Vj,h1]
 ·show eY (-st) (-ha) (gU st ha (fun _ _ _=>true) p.cells)=0
  rw[Vj];exact h2
theorem aPn {s:Sc} {st ha:Int} (h:rF s st ha=0):qL (qL s st ha) (-st) (-ha)=s/\rF (qL s st ha) (-st) (-ha)=0:=by
 have h0:sW (keyE st ha) s.bars=0/\sW (Rf st ha) s.parts=0:=by
  rw[rF] at h
  split at h
  ·rename_i h1;exact⟨h1,h⟩
  ·rename_i h1;exact absurd h h1
 have hk:=aCa h0.1
 have hp:=aCa h0.2
 constructor
 ·have e1:(s.bars.map (Ba.up st ha)).map (Ba.up (-st) (-ha))=s.bars:=by
   rw[List.map_map]
   refine(List.map_congr_left fun b hb=>?_).trans (List.map_id _)
   show({b with key:=((b.key.up st ha).1.up (-st) (-ha)).1}:Ba)=b
   rw[aEt (hk b hb)]
  have e2:(s.parts.map (Pa.up st ha)).map (Pa.up (-st) (-ha))=s.parts:=by
   rw[List.map_map]
   exact(List.map_congr_left fun p hp1=>(aH8 (hp p hp1)).1).trans (List.map_id _)
  show(⟨s.title,(s.bars.map (Ba.up st ha)).map (Ba.up (-st) (-ha)),(s.parts.map (Pa.up st ha)).map (Pa.up (-st) (-ha))⟩:Sc)=s
  rw[e1,e2]
 ·rw[rF,if_pos]
  ·refine Yw fun q hq=>?_
   obtain⟨p,hp1,rfl⟩:=List.mem_map.1 hq
   exact(aH8 (hp p hp1)).2
  ·refine Yw fun q hq=>?_
   obtain⟨b,hb,rfl⟩:=List.mem_map.1 hq
   show((b.key.up st ha).1.up (-st) (-ha)).2=0
   rw[aEt (hk b hb)]
theorem aRw {s:Sc} {o:aH} (j:Nat) (hk:o.kind=8) (hp:o.part=(j:Nat)) (hj:j<s.parts.length) (h1: -70<=o.steps/\o.steps<=70) (h2: -120<=o.halves/\o.halves<=120):gG s o=(eY o.steps o.halves (s.parts.getD j pa0).cells,qM s j o.steps o.halves,oQ j o.steps o.halves):=by
 have e1:o.j=j:=by rw[aH.j,hp,jP]
 have hd:gG s o=zL s o:=by simp [gG,hk]
 rw[hd,zL,if_pos (by simp only[aH.upOk,Bool.and_eq_true,decide_eq_true_eq];exact⟨by omega,h1,h2⟩),if_pos (by omega),e1]
theorem aMc {s:Sc} {o:aH} (hk:o.kind=8) (hp:o.part<0) (h1: -70<=o.steps/\o.steps<=70) (h2: -120<=o.halves/\o.halves<=120):gG s o=(rF s o.steps o.halves,qL s o.steps o.halves,oQ (-1) o.steps o.halves):=by
 have hd:gG s o=zL s o:=by simp [gG,hk]
 rw[hd,zL,if_pos (by simp only[aH.upOk,Bool.and_eq_true,decide_eq_true_eq];exact⟨by omega,h1,h2⟩),if_neg (by omega)]
theorem back8 {s:Sc} {o:aH} (h:(zL s o).1=0):Bo s (zL s o):=by
 unfold zL at h ⊢
 split
 rotate_left
 ·rename_i h1
  rw[if_neg h1] at h
  exact absurd h (show¬(90:Int)=0 by decide)
 rename_i h1
 rw[if_pos h1] at h
 simp only[aH.upOk,Bool.and_eq_true,decide_eq_true_eq] at h1
 obtain⟨st,hst⟩: ∃x,o.steps=x:=⟨_,rfl⟩
 obtain⟨ha,hha⟩: ∃x,o.halves=x:=⟨_,rfl⟩
 rw[hst,hha] at h h1 ⊢
 have nn1: - -st=st:=Int.neg_neg st
 have nn2: - -ha=ha:=Int.neg_neg ha
 split
 ·rename_i h2
  rw[if_pos h2] at h
  have hj:o.j<s.parts.length:=by simp only[aH.j];omega
  obtain⟨j,hje⟩: ∃j,o.j=j:=⟨_,rfl⟩
  rw[hje] at h hj ⊢
  replace h:eY st ha (s.parts.getD j pa0).cells=0:=h
  obtain⟨c1,c2⟩:=aH7 h
  have hd: ∀s st ha,qM s j st ha=pV s j fun p=> {p with cells:=Dn st ha p.cells}:=fun s st ha=>by
   rw[qM,Vj];rfl
  have hc:((qM s j st ha).parts.getD j pa0).cells=Dn st ha (s.parts.getD j pa0).cells:=by rw[hd,Nh hj]
  have m1:=aRw (s:=qM s j st ha) (o:=oQ j st ha) j rfl rfl (by rw[hd,Pz];exact hj) (show -70<= -st/\ -st<=70 by omega) (show -120<= -ha/\ -ha<=120 by omega)
  have e1:qM (qM s j st ha) j (-st) (-ha)=s:=by
   rw[hd,hd,Cj hj]
   refine Cm ?_
   show({(s.parts.getD j pa0) with cells:=Dn (-st) (-ha) (Dn st ha (s.parts.getD j pa0).cells)}:Pa)=_
   rw[c1]
  rw[show(oQ j st ha).steps= -st from rfl,show(oQ j st ha).halves= -ha from rfl,hc,c2,e1] at m1
  have m2:=aRw (s:=s) (o:=oQ j (-st) (-ha)) j rfl rfl hj (show -70<= - -st/\ - -st<=70 by omega) (show -120<= - -ha/\ - -ha<=120 by omega)
  rw[show(oQ j (-st) (-ha)).steps= - -st from rfl,show(oQ j (-st) (-ha)).halves= - -ha from rfl,nn1,nn2,h] at m2
  exact⟨_,m1,_,m2⟩
 ·rename_i h2
  rw[if_neg h2] at h
  replace h:rF s st ha=0:=h
  obtain⟨c1,c2⟩:=aPn h
  have m1:=aMc (s:=qL s st ha) (o:=oQ (-1) st ha) rfl (show(-1:Int)<0 by decide) (show -70<= -st/\ -st<=70 by omega) (show -120<= -ha/\ -ha<=120 by omega)
  rw[show(oQ (-1) st ha).steps= -st from rfl,show(oQ (-1) st ha).halves= -ha from rfl,c1,c2] at m1
  have m2:=aMc (s:=s) (o:=oQ (-1) (-st) (-ha)) rfl (show(-1:Int)<0 by decide) (show -70<= - -st/\ - -st<=70 by omega) (show -120<= - -ha/\ - -ha<=120 by omega)
  rw[show(oQ (-1) (-st) (-ha)).steps= - -st from rfl,show(oQ (-1) (-st) (-ha)).halves= - -ha from rfl,nn1,nn2,h] at m2
  exact⟨_,m1,_,m2⟩
theorem back9 {s:Sc} {o:aH}:Bo s (0,Ls s o,Vt s):=⟨_,aOj rfl,_,aOj rfl⟩
theorem aPo {s:Sc} {o:aH} (hr:Right s) (h:(gG s o).1=0):Bo s (gG s o):=by
 unfold gG at h ⊢
 repeat' split
 all_goals simp only[*,if_true,if_false] at h
 ·exact back1 hr h
 ·exact back2 hr h
 ·exact back3 hr h
 ·exact back4 h
 ·exact back5 hr h
 ·exact back6 hr h
 ·exact back7 hr h
 ·exact back8 h
 ·exact back9
 ·exact absurd h (show¬(90:Int)=0 by decide)
theorem aJp {s:Sc} {o:aH} (h:(dF s o).1=0):(dF (dF s o).2.1 (dF s o).2.2).1=0/\(dF (dF s o).2.1 (dF s o).2.2).2.1=s/\(dF s (dF (dF s o).2.1 (dF s o).2.2).2.2).1=0/\(dF s (dF (dF s o).2.1 (dF s o).2.2).2.2).2.1=(dF s o).2.1:=by
 have h0:=h
 rw[dF] at h
 split at h
 rotate_left
 ·rename_i h1;exact absurd h h1
 rename_i hc
 split at h
 rotate_left
 ·rename_i h2;exact absurd h h2
 rename_i hd
 replace h:(gG s o).2.1.checkR.2=0:=h
 have e0:dF s o=(0,(gG s o).2):=by rw[dF,if_pos hc,if_pos hd,h]
 rw[e0]
 obtain⟨o',m1,b',m2⟩:=aPo (mM hc) hd
 have e1:dF (gG s o).2.1 (gG s o).2.2=(0,s,o'):=by rw[dF,if_pos h,m1,if_pos rfl];simp only[hc]
 have e2:dF s o'=(0,(gG s o).2.1,b'):=by rw[dF,if_pos hc,m2,if_pos rfl];simp only[h]
 show(dF (gG s o).2.1 (gG s o).2.2).1=0/\(dF (gG s o).2.1 (gG s o).2.2).2.1=s/\(dF s (dF (gG s o).2.1 (gG s o).2.2).2.2).1=0/\(dF s (dF (gG s o).2.1 (gG s o).2.2).2.2).2.1=(gG s o).2.1
 rw[e1]
 show _/\_/\(dF s o').1=0/\(dF s o').2.1=_
 rw[e2]
 exact⟨rfl,rfl,rfl,rfl⟩
def aLc:aH:=⟨0,0,0,0,0,0,[],[],[],[],0,0,⟨#[]⟩⟩
def boxS:Sc:=⟨⟨#[]⟩,[],[⟨⟨#[]⟩,0,0,[[⟨[]⟩]],[]⟩]⟩
theorem aOp:PC Tryz.prog gl 8 [boxS.av,boxS.av] (fun v=>v= .bool true):=
 Wl boxS (by decide) (fun p hp=>by
  simp only[boxS,List.mem_singleton] at hp
  subst hp
  refine⟨by decide,fun c hc=>?_,by decide,fun d hd=>nomatch hd⟩
  simp only[List.mem_singleton] at hc
  subst hc
  refine⟨by decide,fun v hv=>?_⟩
  simp only[List.mem_singleton] at hv
  subst hv
  exact⟨by decide,fun e he=>nomatch he⟩) (Nat.zero_le _) (fun _ h=>nomatch h)
theorem aHo:PC Tryz.prog gl 9 [aLc.av,aLc.av] (fun v=>v= .bool true):=by
 have hb:=aOp
 (refine PC.introZ 2 mix (fn:=Tryz.f9) Tryz.func9 rfl (names 9 _ Tryz.func9) fun F hF hro W=>?_;simp only[Tryz.ntmps9,Tryz.results9,aJ,Nat.reduceAdd,Nat.reduceSub])
 repeat' (first
  |simp -implicitDefEqProofs only[↓reduceIte,aA,aC,facts,Nat.reduceAdd,Nat.reduceEqDiff,Nat.reduceLT,Nat.reduceLeDiff,Int.reduceLT,aH.av,aLc,bne_self_eq_false, *]
  |((with_reducible refine aS 8 ?_);refine PC.useZ hF hb (rfl) fun v hv=>?_;subst hv)
  |((with_reducible refine Wn ?_);refine yY 1 ?_))
theorem aLd:PC Tryz.prog gl 8 [zeroS.av,zeroS.av] (fun v=>v= .bool true):=Wl zeroS (Nat.zero_le _) (fun _ h=>nomatch h) (Nat.zero_le _) (fun _ h=>nomatch h)
theorem aRb (s:Sc) (o:aH) (hup:PC Tryz.prog gl 4 [] (fun v=>v= .bool true)) (h: ¬(s.fewB=true/\o.fewB=true)):PC Tryz.prog gl 3 [s.av,o.av] (fun v=>v= .bool true):=by
 (refine PC.introZ 2 mix (fn:=Tryz.f3) Tryz.func3 rfl (names 3 _ Tryz.func3) fun F hF hro W=>?_;simp only[Tryz.ntmps3,Tryz.results3,aJ,Nat.reduceAdd,Nat.reduceSub])
 repeat' (first
  |simp -implicitDefEqProofs only[↓reduceIte,aA,aC,facts,Nat.reduceAdd,Nat.reduceEqDiff,Sc.av,aH.av, *]
  |((with_reducible refine dS (fun _=>?_) (fun _=>?_))<;>try omega)
  |((with_reducible refine jV (fun _=>?_) (fun _=>?_))<;>try omega)
  |((with_reducible refine aS 4 ?_);refine PC.useZ hF hup (rfl) fun v hv=>?_;subst hv)
  |((with_reducible refine aS 5 ?_);refine PC.useZ hF (aFd s) (rfl) fun v hv=>?_;subst hv)
  |((with_reducible refine aS 6 ?_);refine PC.useZ hF (Xw o) (rfl) fun v hv=>?_;subst hv))
 all_goals (exfalso;simp_all;done)
theorem aRc (s:Sc) (o:aH) (hup:PC Tryz.prog gl 4 [] (fun v=>v= .bool true)) (h1:s.fewB=true) (h2:o.fewB=true) (e:Int) (he:e≠0) (hap:PC Tryz.prog gl 7 [s.av,o.av] (fun v=>v=errR e)):PC Tryz.prog gl 3 [s.av,o.av] (fun v=>v= .bool true):=by
 have he1:(e !=0)=true:=by simpa using he
 (refine PC.introZ 2 mix (fn:=Tryz.f3) Tryz.func3 rfl (names 3 _ Tryz.func3) fun F hF hro W=>?_;simp only[Tryz.ntmps3,Tryz.results3,aJ,Nat.reduceAdd,Nat.reduceSub])
 repeat' (first
  |simp -implicitDefEqProofs only[↓reduceIte,aA,aC,facts,Nat.reduceAdd,Nat.reduceEqDiff,Sc.av,aH.av,errR, *]
  |((with_reducible refine aS 4 ?_);refine PC.useZ hF hup (rfl) fun v hv=>?_;subst hv)
  |((with_reducible refine aS 5 ?_);refine PC.useZ hF (aFd s) (rfl) fun v hv=>?_;subst hv)
  |((with_reducible refine aS 6 ?_);refine PC.useZ hF (Xw o) (rfl) fun v hv=>?_;subst hv)
  |((with_reducible refine aS 7 ?_);refine PC.useZ hF hap (rfl) fun v hv=>?_;subst hv)
  |((with_reducible refine aS 8 ?_);refine PC.useZ hF aLd (rfl) fun v hv=>?_;subst hv)
  |((with_reducible refine aS 9 ?_);refine PC.useZ hF aHo (rfl) fun v hv=>?_;subst hv))
theorem aRd (s t:Sc) (o b b2 b3:aH) (hup:PC Tryz.prog gl 4 [] (fun v=>v= .bool true)) (h1:s.fewB=true) (h2:o.fewB=true) (hap:PC Tryz.prog gl 7 [s.av,o.av] (fun v=>v= .tup [t.av,b.av,.int .i64 0])) (hap2:PC Tryz.prog gl 7 [t.av,b.av] (fun v=>v= .tup [s.av,b2.av,.int .i64 0])) (hap3:PC Tryz.prog gl 7 [s.av,b2.av] (fun v=>v= .tup [t.av,b3.av,.int .i64 0]))
  (hs:PC Tryz.prog gl 8 [s.av,s.av] (fun v=>v= .bool true)) (ht:PC Tryz.prog gl 8 [t.av,t.av] (fun v=>v= .bool true)):PC Tryz.prog gl 3 [s.av,o.av] (fun v=>v= .bool true):=by
 (refine PC.introZ 2 mix (fn:=Tryz.f3) Tryz.func3 rfl (names 3 _ Tryz.func3) fun F hF hro W=>?_;simp only[Tryz.ntmps3,Tryz.results3,aJ,Nat.reduceAdd,Nat.reduceSub])
 repeat' (first
  |simp -implicitDefEqProofs only[↓reduceIte,aA,aC,facts,Nat.reduceAdd,Nat.reduceEqDiff,Int.reduceBNe,Sc.av,aH.av, *]
  |((with_reducible refine aS 4 ?_);refine PC.useZ hF hup (rfl) fun v hv=>?_;subst hv)
  |((with_reducible refine aS 5 ?_);refine PC.useZ hF (aFd s) (rfl) fun v hv=>?_;subst hv)
  |((with_reducible refine aS 6 ?_);refine PC.useZ hF (Xw o) (rfl) fun v hv=>?_;subst hv)
  |((with_reducible refine aS 7 ?_);refine PC.useZ hF hap (rfl) fun v hv=>?_;subst hv)
  |((with_reducible refine aS 7 ?_);refine PC.useZ hF hap2 (rfl) fun v hv=>?_;subst hv)
  |((with_reducible refine aS 7 ?_);refine PC.useZ hF hap3 (rfl) fun v hv=>?_;subst hv)
  |((with_reducible refine aS 8 ?_);refine PC.useZ hF hs (rfl) fun v hv=>?_;subst hv)
  |((with_reducible refine aS 8 ?_);refine PC.useZ hF ht (rfl) fun v hv=>?_;subst hv))
theorem aRe (s:Sc) (o:aH) (hup:PC Tryz.prog gl 4 [] (fun v=>v= .bool true)) (ts:s.typed) (to:o.typed) (tb:o.typedB):PC Tryz.prog gl 3 [s.av,o.av] (fun v=>v= .bool true):=by
 by_cases hf:s.fewB=true/\o.fewB=true
 rotate_left
 ·exact aRb s o hup hf
 obtain⟨h1,h2⟩:=hf
 have hs:=Yt ts h1
 have ho:=aUq to tb h2
 have hap:=Df s o hs ho
 rcases aEk s o hs ho with⟨he,hse,hout⟩|⟨he,hc,hd,hout⟩
 ·rw[hout] at hap
  exact aRc s o hup h1 h2 _ he hap
 ·rw[hout] at hap
  have hf1:=Jw hs ho he
  obtain⟨c1,c2,c3,c4⟩:=aJp he
  generalize hr:dF s o=r at*
  have hap2:=Df r.2.1 r.2.2 hf1.s hf1.o
  have hf2:=Jw hf1.s hf1.o c1
  generalize hr2:dF r.2.1 r.2.2=r2 at*
  have hap3:=Df s r2.2.2 hs hf2.o
  generalize hr3:dF s r2.2.2=r3 at*
  rw[qO,if_pos c1,c2] at hap2
  rw[qO,if_pos c3,c4] at hap3
  exact aRd s r.2.1 o r.2.2 r2.2.2 r3.2.2 hup h1 h2 hap hap2 hap3 (Nz hs hc) (Nz hf1.s hd)
end Go.Proofs.Pv
