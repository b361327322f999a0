/-
The abstract machine, part G: more operations are what the model does: slices, stores, new variables, literals.
Conditions: none but those that each statement names.
-/
import Derived.Test.YtlcnbhiklpfpjaaGreatDoorPvA
import Derived.Laws.Tables
import Derived.Great.BuildSlice
set_option linter.unusedVariables false
set_option linter.unusedSimpArgs false
set_option maxRecDepth 100000
set_option maxHeartbeats 16000000
namespace Go.Proofs.Pv
open Go
variable {P:Program} {G:Nat->Option (List AV)} {M:Mem} {al:Nat->Prop} {hp:Hp} {W w:World}
def Oh (M:Mem):Option AV->Option Value->Prop
 |none,none=>True
 |some a,some v=>M.rel a v
 |_,_=>False
theorem Vl {x:Option AV} {vx:Option Value} (hx:Oh M x vx) {d:Nat} {n:Int} (h:bnd x d=some n):
  (vx=none/\x=none/\n=d)\/ ∃k,vx=some (.int k n)/\ ∃k',x=some (.int k' n):=by
 cases x with
 |none=>cases vx with
  |none=>left;exact⟨rfl,rfl,by simpa [bnd] using h.symm⟩
  |some v=>exact hx.elim
 | some a=>cases vx with
  |none=>exact hx.elim
  |some v=>
   cases a<;>simp [bnd] at h
   subst h
   have hx':M.rel (.int _ _) v:=hx
   cases hx'
   exact .inr ⟨_,rfl,_,rfl⟩
theorem mF {k:IntKind} {n:Int} {y:Nat} (code:BoundsCode) (h0:0<=n) (h1:n<=y):(Instr.sliceBound (.int k n) y code).run P w= .ok n.toNat w:=by
 simp [Instr.sliceBound,asIntOf,h0,h1]
theorem tC {lo hi:Option AV} {vlo vhi:Option Value} (hlo:Oh M lo vlo) (hhi:Oh M hi vhi) {len cap:Nat} {l h:Int} (el:bnd lo 0=some l) (eh:bnd hi len=some h)
  (h0:0<=l) (h1:l<=h) (h2:h<=cap) (b:Bool):(Instr.sliceBounds b len cap vlo vhi none).run P w= .ok (l.toNat,h.toNat,cap) w:=by
 have a0:0<=h:=by omega
 rcases Vl hlo el with⟨rfl,_,rfl⟩|⟨k,rfl,_⟩<;>rcases Vl hhi eh with⟨rfl,_,rfl⟩|⟨k',rfl,_⟩
 ·simp [Instr.sliceBounds]
 ·cases b<;>simp [Instr.sliceBounds,mF _ a0 h2]
 ·have h1':l<=((len:Int).toNat:Int):=by omega
  simp at h1'
  cases b<;>simp [Instr.sliceBounds,mF (P:=P) (w:=w) (k:=k) .sliceB h0 h1']
 ·have h1':l<=(h.toNat:Int):=by omega
  cases b<;>simp [Instr.sliceBounds,mF (P:=P) (w:=w) _ a0 h2,mF (P:=P) (w:=w) (k:=k) .sliceB h0 h1']
theorem Ja {lo hi:Option AV} {vlo vhi:Option Value} (hlo:Oh M lo vlo) (hhi:Oh M hi vhi) {len cap:Nat} {l h m:Int} {km:IntKind} (el:bnd lo 0=some l) (eh:bnd hi len=some h) (his:hi.isSome=true)
  (h0:0<=l) (h1:l<=h) (h2:h<=m) (h3:m<=cap) (b:Bool):(Instr.sliceBounds b len cap vlo vhi (some (.int km m))).run P w= .ok (l.toNat,h.toNat,m.toNat) w:=by
 have a0:0<=h:=by omega
 have am:0<=m:=by omega
 have h2':h<=(m.toNat:Int):=by omega
 have h1':l<=(h.toNat:Int):=by omega
 rcases Vl hhi eh with⟨rfl,rfl,_⟩|⟨k',rfl,_⟩
 ·simp at his
 rcases Vl hlo el with⟨rfl,_,rfl⟩|⟨k,rfl,_⟩
 ·cases b<;>simp [Instr.sliceBounds,mF (P:=P) (w:=w) _ am h3,mF (P:=P) (w:=w) _ a0 h2']
 ·cases b<;>simp [Instr.sliceBounds,mF (P:=P) (w:=w) _ am h3,mF (P:=P) (w:=w) _ a0 h2',mF (P:=P) (w:=w) (k:=k) .slice3C h0 h1']
theorem aQ.sl_part {I:jZ} {L:Lo} {T:To} {k c:Nat} {rows:List AV} {b o:Nat} (vs:Nat->Value) {A A':Option Addr} (hA:rows≠[]->A=some ⟨b,o,none⟩)
  (hI: ∀q,q<rows.length*k->I b (o+q)=some (vs q)) (hk: ∀r∈rows,r.cells.length=k) (hP: ∀r∈rows,∀x∈r.cells,x.pure=true)
  (hR: ∀j i (hj:j<rows.length) (hi:i< (rows[j]).cells.length),aQ I kC noT ((rows[j]).cells[i]) (vs (j*k+i)))
  (l h:Nat) (h1:l<=h) (h2:h<=rows.length) (hc:h - l<=c) (hA':l<h->A=some ⟨b,o,none⟩->A'=some ⟨b,o+l*k,none⟩) (tk:Tk)
  (htk:tk= .none\/(tk= .full/\c=h - l)):aQ I L T (.sl k ((rows.take h).drop l) tk) (.slice A' (h - l) c):=by
 have hlen:((rows.take h).drop l).length=h - l:=by simp;omega
 rw[<-hlen]
 have hget: ∀j (hj:j< ((rows.take h).drop l).length),((rows.take h).drop l)[j]=rows[l+j]'(by simp at hj;omega):=fun j hj=>by simp
 refine .sl (b:=b) (o:=o+l*k) (fun q=>vs (l*k+q)) (by rw[hlen];exact hc) (fun hne=>?_) (fun q hq=>?_) (fun r hr=>?_) (fun r hr=>?_) (fun j i hj hi=>?_) ?_
 ·have hlt:l<h:=by
   rcases Nat.lt_or_ge l h with h'|h'
   ·exact h'
   ·exact absurd (List.eq_nil_of_length_eq_zero (by rw[hlen];omega)) hne
  exact hA' hlt (hA (by intro e;rw[e] at h2;simp at h2;omega))
 ·rw[hlen] at hq
  rw[Nat.add_assoc]
  refine hI _ ?_
  have:(h - l)*k=h*k - l*k:=Nat.sub_mul _ _ _
  have:=Nat.mul_le_mul_right k h2
  have:=Nat.mul_le_mul_right k h1
  omega
 ·exact hk r (List.mem_of_mem_take (List.mem_of_mem_drop hr))
 ·exact hP r (List.mem_of_mem_take (List.mem_of_mem_drop hr))
 ·have e:=hget j hj
  have hj':l+j<rows.length:=by simp at hj;omega
  have:=hR (l+j) i hj' (by rw[<-e];exact hi)
  rw[show l*k+(j*k+i)=(l+j)*k+i by rw[Nat.add_mul];omega]
  simpa only[e] using this
 ·rcases htk with rfl|⟨rfl,hc'⟩
  ·trivial
  ·show c=_;rw[hlen];exact hc'
theorem aQ.sl_nil {I:jZ} {L:Lo} {T:To} {k c:Nat} {A:Option Addr}:aQ I L T (.sl k [] .none) (.slice A 0 c):=
 .sl (c:=c) (A:=A) (rows:=[]) (b:=0) (o:=0) (fun _=> .bool true) (Nat.zero_le _) (fun h=>absurd rfl h) (fun q hq=>by simp at hq) (by simp) (by simp) (fun j i hj=>by simp at hj) trivial
theorem aQ.sl_nilF {I:jZ} {L:Lo} {T:To} {k:Nat} {A:Option Addr}:aQ I L T (.sl k [] .full) (.slice A 0 0):=
 .sl (c:=0) (A:=A) (rows:=[]) (b:=0) (o:=0) (fun _=> .bool true) (Nat.zero_le _) (fun h=>absurd rfl h) (fun q hq=>by simp at hq) (by simp) (by simp) (fun j i hj=>by simp at hj) rfl
theorem aJr {t:TypeId} {x av:AV} {vx:Value} {lo hi mx:Option AV} {vlo vhi vmx:Option Value} (hx:M.rel x vx) (hlo:Oh M lo vlo) (hhi:Oh M hi vhi) (hmx:Oh M mx vmx)
  (h:aAt P t x lo hi mx=some av): ∃v,(Instr.sliceAt t vx vlo vhi vmx).run P w= .ok v w/\M.rel av v:=by
 unfold aAt at h
 split at h
 ·rename_i s hu
  split at h
  ·rename_i l hh el eh
   split at h
   ·rename_i hc
    obtain⟨h0,h1,h2⟩:=hc
    simp only[Option.some.injEq] at h;subst h
    cases hx
    cases vmx with
    |some v=>exact hmx.elim
    |none=>
     have hb:=tC (P:=P) (w:=w) hlo hhi (cap:=s.size) el eh h0 h1 h2 false
     exact⟨_,by simp [Instr.sliceAt,Instr.slice,dF hu,hb],.str⟩
   ·cases h
  ·cases h
 ·rename_i e k rows tk hu
  split at h
  ·rename_i l hh el eh
   split at h
   ·rename_i hc
    obtain⟨h0,h1,h2,hn⟩:=hc
    cases hx with
    | @sl _ _ _ c A _ _ b o vs hc hA hI hk hP hR ht=>
    split at h
    ·cases vmx with
     |some v=>exact hmx.elim
     | none=>
      simp only[Option.some.injEq] at h;subst h
      have hb:=tC (P:=P) (w:=w) hlo hhi (cap:=c) el eh h0 h1 (by omega) true
      have hrun:(Instr.sliceAt t (.slice A rows.length c) vlo vhi none).run P w= .ok (.slice (if c=l.toNat then A else A.map (·.add (l.toNat*k))) (hh.toNat - l.toNat) (c - l.toNat)) w:=by
       simp [Instr.sliceAt,Instr.slice,dF hu,hb,run_sizeOf hn]
      refine⟨_,hrun,?_⟩
      by_cases hfull:l=0/\hh=rows.length
      ·obtain⟨rfl,rfl⟩:=hfull
       have e1:(if c=(0:Int).toNat then A else A.map (·.add ((0:Int).toNat*k)))=A:=by
        cases A<;>simp [Addr.add]
       rw[e1]
       have e2:(rows.take ((rows.length:Int)).toNat).drop (0:Int).toNat=rows:=by simp
       rw[e2]
       show aQ M.I M.L M.T _ _
       simpa using aQ.sl vs hc hA hI hk hP hR ht
      ·rw[if_neg hfull]
       refine aQ.sl_part vs hA hI hk hP hR l.toNat hh.toNat (by omega) (by omega) (by omega) (fun hlt hA0=>?_) _ ?_
       ·rw[if_neg (by omega),hA0];simp [Addr.add_none]
       ·split
        ·rename_i hf
         obtain⟨rfl,rfl⟩:=hf
         exact .inr ⟨rfl,by have:c=rows.length:=ht;omega⟩
        ·exact .inl rfl
    ·rename_i km m
     split at h
     ·rename_i hcm
      obtain⟨his,g1,g2⟩:=hcm
      simp only[Option.some.injEq] at h;subst h
      cases vmx with
      |none=>exact hmx.elim
      | some v=>
       have hm':M.rel (.int km m) v:=hmx
       cases hm'
       have hb:=Ja (P:=P) (w:=w) hlo hhi (cap:=c) (km:=km) el eh his h0 h1 g1 (by omega) true
       have hrun:(Instr.sliceAt t (.slice A rows.length c) vlo vhi (some (.int km m))).run P w= .ok (.slice (if m.toNat=l.toNat then A else A.map (·.add (l.toNat*k))) (hh.toNat - l.toNat) (m.toNat - l.toNat)) w:=by
        simp [Instr.sliceAt,Instr.slice,dF hu,hb,run_sizeOf hn]
       refine⟨_,hrun,?_⟩
       refine aQ.sl_part vs hA hI hk hP hR l.toNat hh.toNat (by omega) (by omega) (by omega) (fun hlt hA0=>?_) _ ?_
       ·rw[if_neg (by omega),hA0];simp [Addr.add_none]
       ·split
        ·exact .inr ⟨rfl,by omega⟩
        ·exact .inl rfl
     ·cases h
    ·cases h
   ·cases h
  ·cases h
 ·rename_i e key off n k hu
  split at h
  ·rename_i l hh el eh
   split at h
   ·rename_i hc
    obtain⟨h0,h1,h2,h3,hn⟩:=hc
    simp only[Option.some.injEq] at h;subst h
    cases hx with
    | @msl _ _ _ _ _ _ b c z hL hT hz hc=>
     cases vmx with
     |some v=>exact hmx.elim
     | none=>
      have hb:=tC (P:=P) (w:=w) hlo hhi (cap:=c) el eh h0 h1 (by omega) true
      have hne:c≠l.toNat:=by omega
      have hrun:(Instr.sliceAt t (.slice (some ⟨b,off,none⟩) n c) vlo vhi none).run P w= .ok (.slice (some ⟨b,off+l.toNat*k,none⟩) (hh.toNat - l.toNat) (c - l.toNat)) w:=by
       simp [Instr.sliceAt,Instr.slice,dF hu,hb,run_sizeOf hn,hne,Addr.add_none]
      exact⟨_,hrun,.msl hL hT (by
       have h1:(c - l.toNat)*k=c*k - l.toNat*k:=Nat.sub_mul _ _ _
       have h2:l.toNat*k<=c*k:=Nat.mul_le_mul_right _ (by omega)
       omega) (by omega)⟩
   ·split at h
    ·rename_i hc
     obtain⟨h0,h1,h2,hn⟩:=hc
     simp only[Option.some.injEq] at h;subst h
     cases hx with
     | @msl _ _ _ _ _ _ b c z hL hT hz hc=>
      cases vmx with
      |some v=>exact hmx.elim
      | none=>
       have hb:=tC (P:=P) (w:=w) hlo hhi (cap:=c) el eh h0 (by omega) (by omega) true
       have hrun:(Instr.sliceAt t (.slice (some ⟨b,off,none⟩) n c) vlo vhi none).run P w= .ok (.slice (if c=l.toNat then some ⟨b,off,none⟩ else some ⟨b,off+l.toNat*k,none⟩) (hh.toNat - l.toNat) (c - l.toNat)) w:=by
        by_cases hcl:c=l.toNat
        ·simp [Instr.sliceAt,Instr.slice,dF hu,hb,run_sizeOf hn,<-hcl]
        ·simp [Instr.sliceAt,Instr.slice,dF hu,hb,run_sizeOf hn,hcl,Addr.add_none]
       have e0:hh.toNat - l.toNat=0:=by omega
       rw[e0] at hrun
       exact⟨_,hrun,aQ.sl_nil⟩
    ·cases h
  ·cases h
 ·rename_i e key off n c k hu
  split at h
  ·rename_i l hh el eh
   split at h
   ·rename_i hc
    obtain⟨h0,h1,h2,hn⟩:=hc
    simp only[Option.some.injEq] at h;subst h
    cases hx with
    | @mcap _ _ _ _ _ _ _ b z hL hT hz hc=>
     cases vmx with
     |some v=>exact hmx.elim
     | none=>
      have hb:=tC (P:=P) (w:=w) hlo hhi (cap:=c) el eh h0 h1 h2 true
      by_cases hcl:l<c
      ·rw[if_pos hcl]
       have hne:c≠l.toNat:=by omega
       have hrun:(Instr.sliceAt t (.slice (some ⟨b,off,none⟩) n c) vlo vhi none).run P w= .ok (.slice (some ⟨b,off+l.toNat*k,none⟩) (hh.toNat - l.toNat) (c - l.toNat)) w:=by
        simp [Instr.sliceAt,Instr.slice,dF hu,hb,run_sizeOf hn,hne,Addr.add_none]
       exact⟨_,hrun,.mcap hL hT (by
        have h1:(c - l.toNat)*k=c*k - l.toNat*k:=Nat.sub_mul _ _ _
        have h2:l.toNat*k<=c*k:=Nat.mul_le_mul_right _ (by omega)
        omega) (by omega)⟩
      ·rw[if_neg hcl]
       have hcl':c=l.toNat:=by omega
       have hrun:(Instr.sliceAt t (.slice (some ⟨b,off,none⟩) n c) vlo vhi none).run P w= .ok (.slice (some ⟨b,off,none⟩) (hh.toNat - l.toNat) (c - l.toNat)) w:=by
        simp [Instr.sliceAt,Instr.slice,dF hu,hb,run_sizeOf hn,<-hcl']
       have e0:hh.toNat - l.toNat=0:=by omega
       have e1:c - l.toNat=0:=by omega
       rw[e0,e1] at hrun
       exact⟨_,hrun,aQ.sl_nilF⟩
   ·cases h
  ·rename_i l hh km m el eh
   split at h
   ·rename_i hc
    obtain⟨h0,h1,h2,h3,his,hn⟩:=hc
    simp only[Option.some.injEq] at h;subst h
    cases hx with
    | @mcap _ _ _ _ _ _ _ b z hL hT hz hc=>
     cases vmx with
     |none=>exact hmx.elim
     |some v=>
      have hm':M.rel (.int km m) v:=hmx
      cases hm'
      have hb:=Ja (P:=P) (w:=w) hlo hhi (cap:=c) (km:=km) el eh his h0 h1 h2 h3 true
      exact⟨_,by simp [Instr.sliceAt,Instr.slice,dF hu,hb,run_sizeOf hn];rfl,.ud⟩
   ·cases h
  ·cases h
 ·cases h
theorem aQ.oneCell {I:jZ} {L:Lo} {T:To} {a:AV} {v:Value} (h:aQ I L T a v) (ho:a.one=true):v.oneCell'=true:=by
 cases h<;>first|rfl|simp [AV.one] at ho
def lQ (hp:Hp):List (Nat×Option aI)->Hp
 |[]=>hp
 |(k,x)::rest=>lQ (dD hp k x) rest
def bP (R:AV->Value->Prop) (as:List AV) (vs:List Value):Prop:=as.length=vs.length/\ ∀(i:Nat) a v,as[i]?=some a->vs[i]?=some v->R a v
theorem bP.take {R:AV->Value->Prop} {as:List AV} {vs:List Value} (h:bP R as vs) (n:Nat):bP R (as.take n) (vs.take n):=by
 refine⟨by simp [h.1],fun i a v h1 h2=>?_⟩
 rw[List.getElem?_take] at h1 h2
 split at h1
 ·rename_i hi;rw[if_pos hi] at h2;exact h.2 i a v h1 h2
 ·cases h1
theorem bP.drop {R:AV->Value->Prop} {as:List AV} {vs:List Value} (h:bP R as vs) (n:Nat):bP R (as.drop n) (vs.drop n):=by
 refine⟨by simp [h.1],fun i a v h1 h2=>?_⟩
 rw[List.getElem?_drop] at h1 h2
 exact h.2 _ a v h1 h2
theorem bP.append {R:AV->Value->Prop} {as bs:List AV} {vs us:List Value} (h:bP R as vs) (k:bP R bs us):bP R (as++bs) (vs++us):=by
 refine⟨by simp [h.1,k.1],fun i a v h1 h2=>?_⟩
 by_cases hi:i<as.length
 ·rw[List.getElem?_append_left hi] at h1
  rw[List.getElem?_append_left (by rw[<-h.1];exact hi)] at h2
  exact h.2 i a v h1 h2
 ·rw[List.getElem?_append_right (by omega)] at h1
  rw[List.getElem?_append_right (by rw[<-h.1];omega),<-h.1] at h2
  exact k.2 _ a v h1 h2
theorem bP.of_get {R:AV->Value->Prop} {as:List AV} {vs:List Value} (h:vs.length=as.length) (k: ∀i (h:i<as.length) (h':i<vs.length),R as[i] vs[i]):bP R as vs:=by
 refine⟨h.symm,fun i a v h1 h2=>?_⟩
 obtain⟨g1,rfl⟩:=List.getElem?_eq_some_iff.1 h1
 obtain⟨g2,rfl⟩:=List.getElem?_eq_some_iff.1 h2
 exact k i g1 g2
theorem bP.get {R:AV->Value->Prop} {as:List AV} {vs:List Value} (h:bP R as vs) (i:Nat) (h1:i<as.length) (h2:i<vs.length):R as[i] vs[i]:=
 h.2 i _ _ (List.getElem?_eq_getElem h1) (List.getElem?_eq_getElem h2)
theorem Oi {R:AV->Value->Prop} {cs vs:List AV} {c u:List Value} {off:Nat} (hc:bP R cs c) (hv:bP R vs u):
  bP R (splice cs off vs) (c.take off++u++c.drop (off+u.length)):=by
 unfold splice
 rw[hv.1]
 exact((hc.take off).append hv).append (hc.drop _)
theorem aJs (inv:Inv G M al hp W w) {t:TypeId} {a v:AV} {va vv:Value} {u:List (Nat×Option aI)} (ha:M.rel a va) (hv:M.rel v vv) (h:Af P hp t a v=some u):
  ∃w',(Instr.storeAt t va vv).run P w= .ok () w'/\Inv G M al (lQ hp u) W w':=by
 unfold Af at h
 split at h
 ·rename_i key off
  split at h
  ·rename_i cs n hk hn
   split at h
   ·rename_i hc
    obtain⟨hu,hl,h1,hle⟩:=hc
    simp only[Option.some.injEq] at h;subst h
    cases ha with
    | @ptr _ _ _ _ b hL=>
     obtain⟨b',ob,g1,g2,g3,g4,g5⟩:=inv.live _ _ hk
     have hb:b'=b:=by simpa [Mem.blockOf,aI.isTok,hL] using g1.symm
     subst hb
     cases ob<;>simp only[dC] at g3
     rename_i c e fr
     obtain⟨rfl,hs,hr,bz,zz,hTz,hzz⟩:=g3
     have hu':v≠ .ud:=by intro e;subst e;simp [AV.isUndef] at hu
     obtain⟨q1,q2⟩:=aQ.cells hv hu'
     have hsz:vv.cells.size=n:=by rw[q1,hl]
     have hone: ∀x∈vv.cells.toList,x.oneCell'=true:=by
      intro x hx
      obtain⟨i,hi,rfl⟩:=List.mem_iff_getElem.1 hx
      simp at hi
      have:=q2 i (by omega) hi
      refine aQ.oneCell (by simpa using this) ?_
      exact(List.all_eq_true.1 h1) _ (List.getElem_mem _)
     have hst:=run_storeCells_at P b' off e vv.cells.toList 0 c w g2 (by simp;omega) hone
     simp only[Nat.add_zero] at hst
     have hrel:bP (aQ M.I M.L M.T) (splice cs off v.cells) ((c.toList.take cs.length).take off++vv.cells.toList++(c.toList.take cs.length).drop (off+vv.cells.toList.length)):=
      Oi (bP.of_get (by simp;omega) (fun i h h'=>by have:=hr i h (by omega);rw[List.getElem_take];rwa [<-Array.getElem_toList] at this))
       (bP.of_get (by simpa using q1) (fun i h h'=>by have:=q2 i h (by simpa using h');rwa [<-Array.getElem_toList] at this))
     refine⟨w.setRow b' (c.toList.take off++vv.cells.toList++c.toList.drop (off+vv.cells.toList.length)).toArray,?_,?_⟩
     ·simp only[Instr.storeAt,Instr.sureAddr,Sem.run_bind,Sem.run_pure,Result.andThen_ok,storeVar,run_sizeOf hn,hsz,ne_eq,not_true_eq_false,if_false]
      exact hst
     refine inv.turn (old:= .cells cs) (new:= .cells (splice cs off v.cells)) hk hL rfl rfl rfl rfl rfl (fun k hk'=>setRow_other w b' k _ hk') (setRow_heap w b' c _ e (0,0) g2) ?_
     have hlen:(splice cs off v.cells).length=cs.length:=by simp [splice];omega
     refine⟨rfl,by rw[hlen];simp;omega,fun i h1' h2'=>?_,bz,zz,hTz,by simp;omega⟩
     show aQ M.I M.L M.T _ _
     have hi:i<cs.length:=by omega
     have:=hrel.get i h1' (by rw[<-hrel.1];exact h1')
     refine Eq.mp (congrArg _ ?_) this
     simp only[List.getElem_toArray]
     apply Option.some.inj
     rw[<-List.getElem?_eq_getElem,<-List.getElem?_eq_getElem]
     simp only[List.getElem?_append,List.length_append,List.length_take,List.getElem?_take,List.getElem?_drop,Array.length_toList]
     have e1:min off (min cs.length c.size)=off:=by omega
     have e2:min off c.size=off:=by omega
     rw[e1,e2]
     split
     ·split<;>rfl
     ·rw[if_pos (by omega)]
   ·cases h
  ·cases h
 ·cases h
end Go.Proofs.Pv
namespace Go.Proofs.Pv
open Go
variable {P:Program} {G:Nat->Option (List AV)} {M:Mem} {al:Nat->Prop} {hp:Hp} {W w:World}
theorem bP.mono {R R':AV->Value->Prop} (h: ∀a v,R a v->R' a v) {as:List AV} {vs:List Value} (k:bP R as vs):bP R' as vs:=
 ⟨k.1,fun i a v h1 h2=>h _ _ (k.2 i a v h1 h2)⟩
theorem bP.getA {R:AV->Value->Prop} {as:List AV} {c:Array Value} (h:bP R as c.toList) (i:Nat) (h1:i<as.length) (h2:i<c.size):R as[i] c[i]:=by
 have:=h.get i h1 (by simpa using h2)
 rwa [Array.getElem_toList] at this
theorem bP.cells_of {I:jZ} {L:Lo} {T:To} {a:AV} {v:Value} (h:aQ I L T a v) (hu:a.isUndef=false):bP (aQ I L T) a.cells v.cells.toList:=by
 obtain⟨h1,h2⟩:=aQ.cells h (by intro e;subst e;simp [AV.isUndef] at hu)
 exact bP.of_get (by simpa using h1) (fun i h h'=>by simpa using h2 i h (by simpa using h'))
theorem Di {t:TypeId} {z:List AV} (h:dX P t=some z): ∃i zv,P.info? t=some i/\i.zero=some zv/\ ∀ {I:jZ} {L:Lo} {T:To},bP (aQ I L T) z zv.cells.toList:=by
 unfold dX at h
 split at h
 ·rename_i i hi
  split at h
  ·rename_i zv hz
   simp only[Option.some.injEq] at h;subst h
   refine⟨i,zv,hi,hz,fun {I L T}=>?_⟩
   obtain⟨h1,h2⟩:=Qh (I:=I) (L:=L) (T:=T) (Nw P 8 t) zv.cells.toList
   exact bP.of_get h1.symm h2
  ·cases h
 ·cases h
theorem Jk (inv:Inv G M al hp W w) {nx:Nat} (hn: ¬al nx) {cs:List AV} {c:Array Value} (e:TypeId) (hr:bP (aQ M.I M.L M.T) cs c.toList):
  M.le (M.addL nx w.heap.size c.size)/\Inv G (M.addL nx w.heap.size c.size) (lD al nx) (dD hp nx (some (.cells cs))) W (w.alloc (.cells c e))/\
   (M.addL nx w.heap.size c.size).rel (.ptr nx 0) (.pointer (some ⟨w.heap.size,0,none⟩)):=by
 have hle:M.le (M.addL nx w.heap.size c.size):=Mem.le_addL (inv.fresh nx hn)
 obtain⟨h1,h2⟩:=inv.alloc hn (z:=c.size) (.cells cs) (.cells c e) rfl ⟨rfl,by have:=hr.1;simp at this;omega,fun i g1 g2=>M.rel_mono hle (hr.getA i g1 g2),w.heap.size,c.size,by simp [Mem.addL],Nat.le_refl _⟩
 exact⟨h1,h2,.ptr (by simp [Mem.addL])⟩
theorem aRa (inv:Inv G M al hp W w) {nx:Nat} (hn: ¬al nx) {t:TypeId} {z:List AV} (h:dX P t=some z):
  ∃v w' M',(Instr.alloc t true (.tuple #[])).run P w= .ok v w'/\M.le M'/\Inv G M' (lD al nx) (lQ hp [(nx,some (.cells z))]) W w'/\M'.rel (.ptr nx 0) v:=by
 obtain⟨i,zv,hi,hz,hr⟩:=Di h
 obtain⟨h1,h2,h3⟩:=Jk inv hn (c:=zv.cells) t hr
 exact⟨_,_,_,by simp [Instr.alloc,zeroValue,typeInfo,hi,hz,newVar,newRow],h1,h2,h3⟩
theorem aV2 (inv:Inv G M al hp W w) {nx:Nat} (hn: ¬al nx) {t:TypeId} {a:AV} {v:Value} (hv:M.rel a v) (hu:a.isUndef=false):
  ∃v' w' M',(Instr.box t v).run P w= .ok v' w'/\M.le M'/\Inv G M' (lD al nx) (lQ hp [(nx,some (.cells a.cells))]) W w'/\M'.rel (.ptr nx 0) v':=by
 obtain⟨h1,h2,h3⟩:=Jk inv hn (c:=v.cells) t (bP.cells_of hv hu)
 exact⟨_,_,_,by simp [Instr.box,newVar,newRow],h1,h2,h3⟩
theorem foldl_set (off:Nat): ∀(l:List Value) (k:Nat) (cs:Array Value),off+k+l.length<=cs.size->
  ((l.zipIdx k).foldl (fun(cs:Array Value) (x:Value×Nat)=>cs.setIfInBounds (off+x.2) x.1) cs).toList=cs.toList.take (off+k)++l++cs.toList.drop (off+k+l.length)
 |[],k,cs,h=>by simp
 |v::l,k,cs,h=>by
  simp only[List.zipIdx_cons,List.foldl_cons]
  rw[foldl_set off l (k+1) (cs.setIfInBounds (off+k) v) (by simp at h ⊢;omega)]
  simp only[Array.toList_setIfInBounds]
  have e:=list_seg_step cs.toList (off+k) v l (by simp at h ⊢;omega)
  simpa [Nat.add_assoc] using e
theorem aBv {place:Nat->Option (Nat×Nat)} {R:AV->Value->Prop}: ∀(ps:List (Nat×AV)) (vs:List (Nat×Value)) (cs cs':List AV) (c:Array Value),
  ps.length=vs.length->(∀(i:Nat) p q,ps[i]?=some p->vs[i]?=some q->p.1=q.1/\(p.2.isUndef=false->bP R p.2.cells q.2.cells.toList))->bP R cs c.toList->
  wO place cs ps=some cs'-> ∃c',Instr.fill place c vs=some c'/\bP R cs' c'.toList
 |[],[],cs,cs',c,_,_,hr,h=>by simp [wO] at h;subst h;exact⟨c,rfl,hr⟩
 | (i,a)::ps,(j,v)::vs,cs,cs',c,hl,hp,hr,h=>by
  obtain⟨rfl,h0⟩:=hp 0 _ _ rfl rfl
  unfold wO at h
  split at h
  ·rename_i off n hpl
   split at h
   ·rename_i hc
    obtain⟨hu,hn,hle⟩:=hc
    have hra:=h0 hu
    have hv:v.cells.size=n:=by rw[<-hn,hra.1];simp
    have hcs:cs.length=c.size:=by simpa using hr.1
    have hlen:off+0+v.cells.toList.length<=c.size:=by simp;omega
    have hf:=foldl_set off v.cells.toList 0 c hlen
    have hz:v.cells.zipIdx.foldl (fun(cs:Array Value) (x:Value×Nat)=>cs.setIfInBounds (off+x.2) x.1) c=(v.cells.toList.zipIdx 0).foldl (fun(cs:Array Value) (x:Value×Nat)=>cs.setIfInBounds (off+x.2) x.1) c:=by
     rw[<-Array.foldl_toList];simp
    have hnew:bP R (splice cs off a.cells) (v.cells.zipIdx.foldl (fun(cs:Array Value) (x:Value×Nat)=>cs.setIfInBounds (off+x.2) x.1) c).toList:=by
     rw[hz,hf];simpa using Oi (off:=off) hr hra
    obtain⟨c',h1,h2⟩:=aBv ps vs _ cs' _ (by simpa using hl) (fun i p q g1 g2=>hp (i+1) p q (by simpa using g1) (by simpa using g2)) hnew h
    refine⟨c',?_,h2⟩
    simp only[Instr.fill,hpl,hv]
    have: ¬(off+n>c.size):=by omega
    simpa [this] using h1
   ·cases h
  ·cases h
 |[],_::_,_,_,_,hl,_,_,_=>by simp at hl
 |_::_,[],_,_,_,hl,_,_,_=>by simp at hl
theorem aRb {t:TypeId} {z:List AV} {pl:List (Nat×Nat)} (hz:dX P t=some z) (hpl:places P t=some pl) {ps:List (Nat×AV)} {vs:Array (Nat×Value)} {cs:List AV}
  (hl:ps.length=vs.toList.length) (hr: ∀(i:Nat) p q,ps[i]?=some p->vs.toList[i]?=some q->p.1=q.1/\M.rel p.2 q.2) (h:wO (fun i=>pl[i]?) z ps=some cs):
  ∃v,(Instr.build t vs).run P w= .ok v w/\M.rel (.agg cs) v:=by
 obtain⟨i,zv,hi,hzz,hrz⟩:=Di hz
 have key: ∀(place:Nat->Option (Nat×Nat)),(∀j x,pl[j]?=some x->place j=some x)-> ∃c',Instr.fill place zv.cells vs.toList=some c'/\bP (aQ M.I M.L M.T) cs c'.toList:=by
  intro place hp
  have hmono: ∀(ps:List (Nat×AV)) (z cs:List AV),wO (fun i=>pl[i]?) z ps=some cs->wO place z ps=some cs:=by
   intro ps
   induction ps with
   |nil=>intro z cs h;exact h
   | cons p ps ih=>
    intro z cs h
    obtain⟨j,a⟩:=p
    unfold wO at h ⊢
    split at h
    ·rename_i off n hq
     rw[hp j _ hq]
     simp only
     split at h
     ·rename_i hc;rw[if_pos hc];exact ih _ _ h
     ·cases h
    ·cases h
  exact aBv ps vs.toList z cs zv.cells hl (fun i p q g1 g2=>⟨(hr i p q g1 g2).1,fun hu=>bP.cells_of (hr i p q g1 g2).2 hu⟩) hrz (hmono _ _ _ h)
 unfold places at hpl
 split at hpl
 ·rename_i fs hu
  obtain⟨c',h1,h2⟩:=key (fun j=>pl.toArray[j]?) (fun j x hx=>by simpa using hx)
  refine⟨.agg c',run_build w t vs c' ?_,.agg (by simpa using h2.1.symm) (fun i g1 g2=>h2.getA i g1 g2)⟩
  simp only[Program.built,hi,hu,hzz,hpl];exact h1
 ·rename_i n e hu
  cases he:P.info? e with
  |none=>simp [he] at hpl
  | some ie=>
   simp only[he,Option.map_some,Option.some.injEq] at hpl
   obtain⟨c',h1,h2⟩:=key (fun j=>some (j*ie.size,ie.size)) (fun j x hx=>by
    subst hpl
    rw[List.getElem?_map] at hx
    cases hj:(List.range n)[j]? with
    |none=>simp [hj] at hx
    | some y=>
     simp only[hj,Option.map_some,Option.some.injEq] at hx
     have:y=j:=by
      obtain⟨_,rfl⟩:=List.getElem?_eq_some_iff.1 hj
      simp
     subst this;exact congrArg some hx)
   refine⟨.agg c',run_build w t vs c' ?_,.agg (by simpa using h2.1.symm) (fun i g1 g2=>h2.getA i g1 g2)⟩
   simp only[Program.built,hi,hu,hzz,he];exact h1
 ·cases hpl
theorem flat_get {n:Nat}: ∀(rows:List AV),(∀r∈rows,r.cells.length=n)-> ∀(j i:Nat) (hj:j<rows.length),i<n->(rows.flatMap AV.cells)[j*n+i]?=(rows[j]).cells[i]?
 |[],_,j,i,hj,_=>by simp at hj
 |r::rows,h,0,i,hj,hi=>by
  have hr:=h r (by simp)
  simp only[List.flatMap_cons,Nat.zero_mul,Nat.zero_add,List.getElem_cons_zero]
  rw[List.getElem?_append_left (by omega)]
 |r::rows,h,j+1,i,hj,hi=>by
  have hr:=h r (by simp)
  simp only[List.flatMap_cons,List.getElem_cons_succ]
  rw[List.getElem?_append_right (by rw[hr,Nat.add_mul];omega),hr]
  rw[show(j+1)*n+i - n=j*n+i by rw[Nat.add_mul];omega]
  exact flat_get rows (fun x hx=>h x (by simp [hx])) j i (by simpa using hj) hi
theorem sH {n:Nat}: ∀(rows:List AV),(∀r∈rows,r.cells.length=n)->(rows.flatMap AV.cells).length=rows.length*n
 |[],_=>by simp
 |r::rows,h=>by
  simp only[List.flatMap_cons,List.length_append,h r (by simp),sH rows (fun x hx=>h x (by simp [hx])),List.length_cons,Nat.add_mul]
  omega
theorem aT5 {I:jZ} {k:Nat} {rows:List AV} {vs:Nat->Value} (hk: ∀r∈rows,r.cells.length=k)
  (hR: ∀j i (hj:j<rows.length) (hi:i< (rows[j]).cells.length),aQ I kC noT ((rows[j]).cells[i]) (vs (j*k+i))):
  bP (aQ I kC noT) (rows.flatMap AV.cells) ((List.range (rows.length*k)).map vs):=by
 have hl:=sH rows hk
 refine⟨by simp [hl],fun q a v h1 h2=>?_⟩
 have hq:q<rows.length*k:=by rw[<-hl];exact(List.getElem?_eq_some_iff.1 h1).1
 have hk0:0<k:=by
  rcases Nat.eq_zero_or_pos k with h|h
  ·subst h;simp at hq
  ·exact h
 have hj:q / k<rows.length:=Nat.div_lt_of_lt_mul (by rw[Nat.mul_comm];exact hq)
 have hi:q % k<k:=Nat.mod_lt _ hk0
 have hqe:q / k*k+q % k=q:=by rw[Nat.mul_comm];exact Nat.div_add_mod q k
 have hf:=flat_get rows hk (q / k) (q % k) hj hi
 rw[hqe,h1] at hf
 have hc:(rows[q / k]).cells.length=k:=hk _ (List.getElem_mem hj)
 have:=hR (q / k) (q % k) hj (by omega)
 rw[hqe] at this
 rw[List.getElem?_eq_getElem (by omega)] at hf
 simp only[Option.some.injEq] at hf
 rw[hf]
 have hv:v=vs q:=by
  rw[List.getElem?_map] at h2
  simp [hq] at h2
  exact h2.symm
 rw[hv];exact this
theorem Fh {I:jZ} {L:Lo} {T:To} {k c b:Nat} {rows:List AV} {cs:List Value} {tk:Tk} (hk: ∀r∈rows,r.cells.length=k) (hP: ∀r∈rows,∀x∈r.cells,x.pure=true) (hr:bP (aQ I kC noT) (rows.flatMap AV.cells) cs)
  (hI: ∀q (h:q<cs.length),I b q=some cs[q]) (hc:rows.length<=c) (ht:Xo T tk (some ⟨b,0,none⟩) b 0 rows.length c k):aQ I L T (.sl k rows tk) (.slice (some ⟨b,0,none⟩) rows.length c):=by
 have hl:=sH rows hk
 refine .sl (b:=b) (o:=0) (fun q=>cs.getD q undef) hc (fun _=>rfl) (fun q hq=>?_) hk hP (fun j i hj hi=>?_) ht
 ·have hq':q<cs.length:=by rw[<-hr.1,hl];exact hq
  rw[Nat.zero_add,hI q hq'];simp [hq']
 ·have hk':=hk _ (List.getElem_mem hj)
  have hf:=flat_get rows hk j i hj (by omega)
  rw[List.getElem?_eq_getElem hi] at hf
  have hlt:j*k+i<cs.length:=by
   rw[<-hr.1];exact(List.getElem?_eq_some_iff.1 hf).1
  have:=hr.2 (j*k+i) _ cs[j*k+i] hf (List.getElem?_eq_getElem hlt)
  simpa [hlt] using this
end Go.Proofs.Pv
namespace Go.Proofs.Pv
open Go
variable {P:Program} {G:Nat->Option (List AV)} {M:Mem} {al:Nat->Prop} {hp:Hp} {W w:World}
theorem aF1 {n:Nat}: ∀(rows:List AV),(∀r∈rows,r.cells.length=n)-> ∀(i:Nat) (v:AV),v.cells.length=n->i<rows.length->
  (rows.set i v).flatMap AV.cells=splice (rows.flatMap AV.cells) (i*n) v.cells
 |[],_,i,v,_,hi=>by simp at hi
 |r::rows,h,0,v,hv,hi=>by
  have hr:=h r (by simp)
  simp only[List.set_cons_zero,List.flatMap_cons,splice,Nat.zero_mul,List.take_zero,List.nil_append,Nat.zero_add]
  rw[List.drop_append_of_le_length (by omega),List.drop_eq_nil_of_le (by omega)]
  simp
 |r::rows,h,i+1,v,hv,hi=>by
  have hr:=h r (by simp)
  have ih:=aF1 rows (fun x hx=>h x (by simp [hx])) i v hv (by simpa using hi)
  simp only[List.set_cons_succ,List.flatMap_cons,ih,splice]
  have e1:(i+1)*n=r.cells.length+i*n:=by rw[hr,Nat.add_mul];omega
  rw[e1,List.take_length_add_append,Nat.add_assoc,List.drop_length_add_append]
  simp
theorem Ud {n:Nat}: ∀(ps:List (Nat×AV)) (rows rows':List AV),(∀r∈rows,r.cells.length=n)->setRows n rows ps=some rows'->
  wO (fun i=>some (i*n,n)) (rows.flatMap AV.cells) ps=some (rows'.flatMap AV.cells)/\(∀r∈rows',r.cells.length=n)/\rows'.length=rows.length
 |[],rows,rows',h,hs=>by simp [setRows] at hs;subst hs;exact⟨rfl,h,rfl⟩
 | (i,v)::ps,rows,rows',h,hs=>by
  unfold setRows at hs
  split at hs
  ·rename_i hc
   obtain⟨hu,hv,hi⟩:=hc
   have h': ∀r∈rows.set i v,r.cells.length=n:=by
    intro r hr
    rcases List.mem_or_eq_of_mem_set hr with hr|rfl
    ·exact h r hr
    ·exact hv
   obtain⟨g1,g2,g3⟩:=Ud ps (rows.set i v) rows' h' hs
   refine⟨?_,g2,by simpa using g3⟩
   unfold wO
   simp only
   have hle:i*n+n<=(rows.flatMap AV.cells).length:=by
    rw[sH rows h]
    calc i*n+n=(i+1)*n:=by rw[Nat.add_mul];omega
     _<=rows.length*n:=Nat.mul_le_mul_right _ hi
   rw[if_pos ⟨hu,hv,hle⟩,<-aF1 rows h i v hv hi]
   exact g1
  ·cases hs
theorem Eh {R:AV->Value->Prop} {zr:AV} {zc:Array Value} {n:Nat} (len:Nat) (hn:zr.cells.length=n) (h0:0<n) (hr:bP R zr.cells zc.toList):
  bP R ((List.replicate len zr).flatMap AV.cells) ((Array.range (len*n)).map (zc[· % zc.size]!)).toList:=by
 have hk: ∀r∈List.replicate len zr,r.cells.length=n:=by intro r hr;rw[List.eq_of_mem_replicate hr];exact hn
 have hl:=sH _ hk
 have hz:zc.size=n:=by rw[<-hn,hr.1];simp
 refine⟨by simp [hl],fun q a v h1 h2=>?_⟩
 have hq:q<len*n:=by
  have:=(List.getElem?_eq_some_iff.1 h1).1
  rw[hl] at this;simpa using this
 have hj:q / n< (List.replicate len zr).length:=by simpa using Nat.div_lt_of_lt_mul (by rw[Nat.mul_comm];exact hq)
 have hi:q % n<n:=Nat.mod_lt _ h0
 have hf:=flat_get _ hk (q / n) (q % n) hj hi
 rw[show q / n*n+q % n=q by rw[Nat.mul_comm];exact Nat.div_add_mod q n,h1,List.getElem_replicate] at hf
 have hv:v=zc[q % n]!:=by
  simp [hq,hz] at h2
  exact h2.symm
 subst hv
 refine hr.2 (q % n) a _ hf.symm ?_
 have:q % n<zc.size:=by omega
 simp [this]
theorem Xd {r:AV} (h:r.pureV=true): ∀x∈r.cells,x.pure=true:=by
 intro x hx
 cases r<;>simp [AV.cells] at hx<;>first
  |(simp [AV.pureV] at h;exact h x hx)
  |(subst hx;simpa [AV.pureV] using h)
theorem bP.pureAll {I:jZ} {L:Lo} {T:To} {as:List AV} {vs:List Value} (h:bP (aQ I L T) as vs) (hp: ∀a∈as,a.pure=true):bP (aQ I kC noT) as vs:=
 ⟨h.1,fun i a v h1 h2=>(h.2 i a v h1 h2).pure (hp a (List.mem_of_getElem? h1))⟩
theorem aAc {e:TypeId} {n:Nat} {zr:AV} (h:bH P e=some (n,zr)): ∃i zv,P.info? e=some i/\i.size=n/\i.zero=some zv/\0<n/\zr.cells.length=n/\ ∀ {I:jZ} {L:Lo} {T:To},bP (aQ I L T) zr.cells zv.cells.toList:=by
 unfold bH at h
 split at h
 ·rename_i n' z hn hz
  obtain⟨i,zv,hi,hzz,hr⟩:=Di hz
  obtain⟨i',hi',hs⟩:=Az hn
  rw[hi] at hi';cases hi'
  split at h
  ·split at h
   ·rename_i hc
    obtain⟨hl,h0⟩:=hc
    simp only[Option.some.injEq,Prod.mk.injEq] at h
    obtain⟨rfl,rfl⟩:=h
    exact⟨i,zv,hi,hs,hzz,h0,hl,hr⟩
   ·cases h
  ·split at h
   ·rename_i x
    split at h
    ·rename_i hc
     obtain⟨h1,h2⟩:=hc
     simp only[Option.some.injEq,Prod.mk.injEq] at h
     obtain⟨rfl,rfl⟩:=h
     have hx:x.cells=[x]:=by cases x<;>first|rfl|simp [AV.one] at h2
     exact⟨i,zv,hi,by omega,hzz,by omega,by rw[hx];rfl,by rw[hx];exact hr⟩
    ·cases h
   ·cases h
 ·cases h
theorem qW {t e:TypeId} (h:nN P t=some e):P.underlying t=some (.slice e):=by
 unfold nN at h
 split at h
 ·rename_i e' hu;simp only[Option.some.injEq] at h;subst h;exact hu
 ·cases h
theorem aOk (inv:Inv G M al hp W w) {n:Nat} {rows:List AV} {c:Array Value} {e:TypeId} (hk: ∀r∈rows,r.cells.length=n) (hr:bP (aQ M.I M.L M.T) (rows.flatMap AV.cells) c.toList) (hp': ∀r∈rows,r.pureV=true):
  ∃M',M.le M'/\Inv G M' al hp W (w.alloc (.cells c e))/\M'.rel (.sl n rows .full) (.slice (some ⟨w.heap.size,0,none⟩) rows.length rows.length):=by
 obtain⟨h1,h2⟩:=inv.allocI c e c.size (Nat.le_refl _)
 refine⟨_,h1,h2,Fh (cs:=c.toList) hk (fun r hr'=>Xd (hp' r hr')) ?_ ?_ (Nat.le_refl _) rfl⟩
 ·refine bP.mono (fun a v h=>aQ.mono0 h1.I h (fun _ _ h=>h) (fun _ _ h=>h)) (bP.pureAll hr ?_)
  intro a ha
  obtain⟨r,hr1,hr2⟩:=List.mem_flatMap.1 ha
  exact Xd (hp' r hr1) a hr2
 ·intro q hq
  have hq':q<c.size:=by simpa using hq
  simp [Mem.addI,hq']
theorem aD7 (inv:Inv G M al hp W w) {nx:Nat} (hn: ¬al nx) {t:TypeId} {len:Nat} {ps:List (Nat×AV)} {vs:Array (Nat×Value)} {res:kM}
  (hl:ps.length=vs.toList.length) (hr: ∀(i:Nat) p q,ps[i]?=some p->vs.toList[i]?=some q->p.1=q.1/\M.rel p.2 q.2) (h:xU P nx t len ps=some res):
  ∃av u v w' M',res= .val av u/\(Instr.buildSlice t len vs).run P w= .ok v w'/\M.le M'/\Inv G M' (lD al nx) (lQ hp u) W w'/\M'.rel av v:=by
 unfold xU at h
 split at h
 ·cases h
 ·rename_i e he
  have hu:=qW he
  split at h
  ·cases h
  ·rename_i n zr hz
   obtain⟨ie,zv,hi,hs,hzz,h0,hzl,hzr⟩:=aAc hz
   split at h
   ·rename_i hsmall
    split at h
    ·cases h
    ·rename_i rows hrows
     have hk0: ∀r∈List.replicate len zr,r.cells.length=n:=by intro r hr;rw[List.eq_of_mem_replicate hr];exact hzl
     obtain⟨g1,g2,g3⟩:=Ud _ _ rows hk0 hrows
     have hlen:rows.length=len:=by simpa using g3
     have hfill:=aBv (R:=aQ M.I M.L M.T) (ps.map fun p=>(p.1,p.2.strip)) vs.toList _ _ ((Array.range (len*n)).map (zv.cells[· % zv.cells.size]!)) (by simpa using hl)
      (fun i p q e1 e2=>by
       rw[List.getElem?_map] at e1
       cases hp':ps[i]? with
       |none=>simp [hp'] at e1
       |some p0=>
        simp only[hp',Option.map_some,Option.some.injEq] at e1
        subst e1
        obtain⟨r1,r2⟩:=hr i p0 q hp' e2
        exact⟨r1,fun hu'=>bP.cells_of (aQ.strip r2) hu'⟩) (Eh len hzl h0 hzr) g1
     obtain⟨c,hc1,hc2⟩:=hfill
     have hrun:(Instr.buildSlice t len vs).run P w= .ok (.slice (some ⟨w.heap.size,0,none⟩) len len) (w.alloc (.cells c e)):=by
      rcases Nat.eq_zero_or_pos len with rfl|hpos
      ·have:c= #[]:=by
        have:c.size=0:=by
         have:=hc2.1;rw[sH rows g2,hlen] at this;simpa using this.symm
        exact Array.eq_empty_of_size_eq_zero this
       subst this
       have hps:ps=[]:=by
        cases ps with
        |nil=>rfl
        |cons p ps=>simp [setRows] at hrows
       have hvs:vs= #[]:=by
        subst hps
        exact Array.eq_empty_of_size_eq_zero (by simpa using hl.symm)
       subst hvs
       simp [Instr.buildSlice,dF hu,sizeOf,typeInfo,hi,hs,newRow,Instr.fill]
       exact congrArg (fun c=>w.alloc (.cells c e)) (Array.eq_empty_of_size_eq_zero (by simp))
      ·refine run_buildSlice w t e len vs c ie zv hu hi hzz (by rw[hs];omega) (by rw[hs];exact Nat.ne_of_gt (Nat.mul_pos hpos h0)) ?_
       rw[hs];exact hc1
     split at h
     ·rename_i hpure
      simp only[Option.some.injEq] at h;subst h
      obtain⟨M',k1,k2,k3⟩:=aOk (e:=e) inv g2 hc2 (fun r hr'=>List.all_eq_true.1 hpure r hr')
      rw[hlen] at k3
      exact⟨_,_,_,_,M',rfl,hrun,k1,k2.more (fun k hk=> .inl hk),k3⟩
     ·split at h
      ·simp only[Option.some.injEq] at h;subst h
       obtain⟨k1,k2,k3⟩:=Jk inv hn e hc2
       exact⟨_,_,_,_,_,rfl,hrun,k1,k2,.msl (b:=w.heap.size) (z:=c.size) (by simp [Mem.addL]) (by simp [Mem.addL]) (by have h1:=hc2.1;rw[sH rows g2,hlen] at h1;simp at h1;omega) (Nat.le_refl _)⟩
      ·cases h
   ·cases h
theorem yT {t ty e el:TypeId} {i:TypeInfo} (ht:P.underlying t=some (.slice e)) (hi:P.info? e=some i)
  (g sLen sCap:Nat) (cur:Array Value) (hg:w.heap[g]?=some (.cells cur el (0,0)))
  (a:Addr) (m c:Nat) (news:List Value) (hl:news.length=m*i.size) (hnews: ∀j u,news[j]?=some u->w.cell? (a.add j)=some u) (h1: ∀u∈news,u.oneCell'=true)
  (hroom:sLen+m<=sCap) (hfit:sLen*i.size+news.length<=cur.size):
  (Builtin.append_ #[t,t] ty #[.slice (some ⟨g,0,none⟩) sLen sCap,.slice (some a) m c]).run P w=
   .ok (.slice (some ⟨g,0,none⟩) (sLen+m) sCap) (w.setRow g (cur.toList.take (sLen*i.size)++news++cur.toList.drop (sLen*i.size+news.length)).toArray):=by
 have hf:=run_firstCells_some (P:=P) w i.size m a m c news hl hnews
 have hst:=run_storeCells_at P g (sLen*i.size) el news 0 cur w hg (by simpa using hfit) h1
 simp only[Nat.add_zero] at hst
 simp [Builtin.append_,run_underlying ht,sizeOf,typeInfo,hi,Builtin.lenOf,hroom,hf,Addr.add_lit,hst]
theorem aQ.sl_cells (inv:Inv G M al hp W w) {k:Nat} {rows:List AV} {t:Tk} {v:Value} (h:M.rel (.sl k rows t) v):
    ∃ A c cs,v= .slice A rows.length c/\rows.length<=c/\bP (aQ M.I kC noT) (rows.flatMap AV.cells) cs/\(∀r∈rows,r.cells.length=k)/\(∀r∈rows,∀x∈r.cells,x.pure=true)/\cs.length=rows.length*k/\
      (rows≠[]-> ∃b o,A=some ⟨b,o,none⟩/\(∀q (hq:q<cs.length),M.I b (o+q)=some cs[q])/\ ∀j u,cs[j]?=some u->w.cell? ((⟨b,o,none⟩:Addr).add j)=some u)/\
      (t= .full\/t= .mut->c=rows.length)/\(∀q,t= .tok q-> ∃b,A=some ⟨b,0,none⟩/\M.T q=some (b,rows.length*k,c*k)/\(∀q (hq:q<cs.length),M.I b q=some cs[q])):=by
  cases h with
  | @sl _ _ _ c A _ _ b o vs hc hA hI hk hP hR ht=>
    have hI': ∀q (hq:q< ((List.range (rows.length*k)).map vs).length),M.I b (o+q)=some ((List.range (rows.length*k)).map vs)[q]:=by
      intro q hq
      have hq':q<rows.length*k:=by simpa using hq
      rw[hI q hq'];simp
    refine⟨A,c,(List.range (rows.length*k)).map vs,rfl,hc,aT5 hk hR,hk,hP,by simp,fun hne=>⟨b,o,hA hne,hI',fun j u hj=>?_⟩,fun e=>by rcases e with e|e<;>(subst e;exact ht),fun q e=>?_⟩
    · obtain⟨hq,rfl⟩:=List.getElem?_eq_some_iff.1 hj
      rw[Addr.add_none]
      exact inv.imm _ _ _ (hI' j hq)
    · subst e
      obtain⟨rfl,h2,h3⟩:=ht
      exact⟨b,h2,h3,fun q hq=>by have:=hI' q hq;rwa [Nat.zero_add] at this⟩
theorem aF2 (inv:Inv G M al hp W w) {nx:Nat} (hn: ¬al nx) {n cap:Nat} {rows:List AV} {cs:List Value} {c:Array Value} {e:TypeId} (hk: ∀r∈rows,r.cells.length=n) (hP: ∀r∈rows,∀x∈r.cells,x.pure=true)
  (hr:bP (aQ M.I kC noT) (rows.flatMap AV.cells) cs) (hc:c.toList.take cs.length=cs) (hs:c.size=cap*n) (hcap:rows.length<=cap):
  ∃M',M.le M'/\Inv G M' (lD al nx) (dD hp nx (some .tok)) W (w.alloc (.cells c e))/\M'.rel (.sl n rows (.tok nx)) (.slice (some ⟨w.heap.size,0,none⟩) rows.length cap):=by
 have hfr:=inv.fresh nx hn
 have hlen:cs.length=rows.length*n:=by rw[<-hr.1,sH rows hk]
 have hle0:rows.length*n<=cap*n:=Nat.mul_le_mul_right _ hcap
 obtain⟨h1,h2⟩:=inv.allocI c e cs.length (by omega)
 rw[hc] at h1 h2
 have hT0:(M.addI w.heap.size 0 cs).T nx=none:=hfr.2
 have h3:(M.addI w.heap.size 0 cs).le ((M.addI w.heap.size 0 cs).addT nx (w.heap.size,cs.length,cap*n)):=Mem.le_addT hT0
 have hnew:(w.alloc (.cells c e)).heap[w.heap.size]?=some (.cells c e (0,0)):=by show(w.heap.push _)[w.heap.size]?=_;simp
 refine⟨_,(Mem.le_trans h1 h3),?_,?_⟩
 ·constructor
  ·exact h2.imm
  ·exact h2.far
  ·exact h2.os
  ·exact h2.tape
  ·exact h2.out
  ·intro key hkey
   have g1: ¬al key:=fun h=>hkey (.inl h)
   have g2:key≠nx:=fun h=>hkey (.inr h)
   have:=inv.fresh key g1
   simp [Mem.addT,Mem.addI,g2,this]
  ·intro key bk hb
   by_cases ek:key=nx
   ·subst ek
    simp only[dD,if_true,Option.some.injEq] at hb
    subst hb
    refine⟨w.heap.size,_,by simp [Mem.blockOf,aI.isTok,Mem.addT],hnew,⟨rfl,w.heap.size,cs.length,cap*n,by simp [Mem.addT],by omega,by omega,fun o ho=>?_⟩,inv.noF (Nat.le_refl _),fun h=>by simp [aI.isTok] at h⟩
    simp only[Mem.addT,Mem.addI]
    rw[if_neg (by omega)]
    exact inv.noI (Nat.le_refl _) o
   ·simp only[dD,ek,if_false] at hb
    obtain⟨b,ob,g1,g2,g3,g4,g5⟩:=h2.live key bk hb
    exact⟨b,ob,Mem.blockOf_mono h3 g1,g2,g3.grow h3 (fun htk b' e' z' hT o ho=>by
     cases bk<;>simp [aI.isTok] at htk
     cases ob<;>simp only[dC] at g3
     obtain⟨_,b1,e1,z1,k1,_,_,k4⟩:=g3
     rw[hT] at k1;cases k1;exact k4 o ho),g4,g5⟩
  ·intro k1 k2 b1 b2 b g1 g2 g3 g4
   have old: ∀k bk,k≠nx->dD hp nx (some .tok) k=some bk->((M.addI w.heap.size 0 cs).addT nx (w.heap.size,cs.length,cap*n)).blockOf k bk=some b->hp k=some bk/\M.blockOf k bk=some b/\b<w.heap.size:=by
    intro k bk hne hb hbo
    simp only[dD,hne,if_false] at hb
    obtain⟨b',ob,q1,q2,_⟩:=inv.live k bk hb
    have q1':=Mem.blockOf_mono ((Mem.le_trans h1 h3)) q1
    rw[hbo] at q1';cases q1'
    exact⟨hb,q1,lt_of_heap q2⟩
   by_cases e1:k1=nx<;>by_cases e2:k2=nx
   ·rw[e1,e2]
   ·subst e1
    simp only[dD,if_true,Option.some.injEq] at g1
    subst g1
    obtain⟨_,_,q3⟩:=old k2 b2 e2 g2 g4
    simp [Mem.blockOf,aI.isTok,Mem.addT] at g3
    omega
   ·subst e2
    simp only[dD,if_true,Option.some.injEq] at g2
    subst g2
    obtain⟨_,_,q3⟩:=old k1 b1 e1 g1 g3
    simp [Mem.blockOf,aI.isTok,Mem.addT] at g4
    omega
   ·obtain⟨q1,q2,_⟩:=old k1 b1 e1 g1 g3
    obtain⟨q4,q5,_⟩:=old k2 b2 e2 g2 g4
    exact inv.inj k1 k2 b1 b2 b q1 q4 q2 q5
  ·exact h2.glob
  ·intros;trivial
 ·refine Fh (cs:=cs) hk hP (bP.mono (fun a v h=>aQ.mono0 h1.I h (fun _ _ h=>h) (fun _ _ h=>h)) hr) (fun q hq=>?_) hcap ⟨rfl,rfl,?_⟩
  ·simp [Mem.addT,Mem.addI,hq]
  ·simp [Mem.addT,hlen]
theorem aT6 (inv:Inv G M al hp W w) {nx q:Nat} (hn: ¬al nx) {n b cap:Nat} {rows ys:List AV} {cs news:List Value} (hkr: ∀r∈rows,r.cells.length=n) (hky: ∀r∈ys,r.cells.length=n) (hPr: ∀r∈rows++ys,∀x∈r.cells,x.pure=true)
    (hr:bP (aQ M.I kC noT) (rows.flatMap AV.cells) cs) (hy:bP (aQ M.I kC noT) (ys.flatMap AV.cells) news) (hT:M.T q=some (b,cs.length,cap*n)) (hq:hp q=some .tok)
    (hI: ∀j (hj:j<cs.length),M.I b j=some cs[j]) (hcap:rows.length+ys.length<=cap) {cur:Array Value} {el:TypeId} (hg:w.heap[b]?=some (.cells cur el (0,0))) (hcur:cap*n<=cur.size):
    ∃ M',M.le M'/\Inv G M' (lD al nx) (dD (dD hp q none) nx (some .tok)) W (w.setRow b (cur.toList.take cs.length++news++cur.toList.drop (cs.length+news.length)).toArray)/\
      M'.rel (.sl n (rows++ys) (.tok nx)) (.slice (some ⟨b,0,none⟩) (rows++ys).length cap):=by
  have hfr:=inv.fresh nx hn
  have hlc:cs.length=rows.length*n:=by rw[<-hr.1,sH rows hkr]
  have hln:news.length=ys.length*n:=by rw[<-hy.1,sH ys hky]
  have hfit:cs.length+news.length<=cap*n:=by rw[hlc,hln,<-Nat.add_mul];exact Nat.mul_le_mul_right _ hcap
  obtain⟨b0,ob0,g1,g2,g3,g4,_⟩:=inv.live q _ hq
  have hb0:b0=b:=by simpa [Mem.blockOf,aI.isTok,hT] using g1.symm
  subst hb0
  rw[hg] at g2;cases g2
  simp only[dC] at g3
  obtain⟨_,b1,e1,z1,k1,k2,k3,k4⟩:=g3
  rw[hT] at k1;cases k1
  have hfree: ∀o,cs.length<=o->o<cs.length+news.length->M.I b0 o=none:=fun o h _=>k4 o h
  have h1:M.le (M.addI b0 cs.length news):=Mem.le_addI g4 hfree
  have hqn:q≠nx:=fun e=>by subst e;rw[hfr.2] at hT;cases hT
  have hT0:(M.addI b0 cs.length news).T nx=none:=hfr.2
  have h3:(M.addI b0 cs.length news).le ((M.addI b0 cs.length news).addT nx (b0,cs.length+news.length,cap*n)):=Mem.le_addT hT0
  have hle:=Mem.le_trans h1 h3
  have hsz:(cur.toList.take cs.length++news++cur.toList.drop (cs.length+news.length)).toArray.size=cur.size:=by simp;omega
  have hheap:=setRow_heap w b0 cur (cur.toList.take cs.length++news++cur.toList.drop (cs.length+news.length)).toArray el (0,0) hg
  have hoth:=fun k hk=>setRow_other w b0 k (cur.toList.take cs.length++news++cur.toList.drop (cs.length+news.length)).toArray hk
  refine⟨_,hle,?_,?_⟩
  · constructor
    · intro d o v h
      simp only[Mem.addT,Mem.addI] at h
      by_cases hd:d=b0
      · subst hd
        rw[nM hheap]
        split at h
        · rename_i hc
          obtain⟨_,c1,c2⟩:=hc
          simp only[List.getElem?_toArray]
          rw[List.append_assoc,List.getElem?_append_right (by simp;omega),List.getElem?_append_left (by simp;omega)]
          have:o - (cur.toList.take cs.length).length=o - cs.length:=by simp;omega
          rw[this];exact h
        · rename_i hc
          have hcell:=inv.imm d o v h
          rw[nM hg] at hcell
          have ho:o<cs.length:=by
            rcases Nat.lt_or_ge o cs.length with h'|h'
            · exact h'
            · rw[k4 o h'] at h;cases h
          simp only[List.getElem?_toArray]
          rw[List.append_assoc,List.getElem?_append_left (by simp;omega),List.getElem?_take,if_pos ho]
          simpa using hcell
      · rw[if_neg (by intro hc;exact hd hc.1)] at h
        rw[World.cell?_of_block (w:=w) (a:=⟨d,o,none⟩) (hoth d hd)];exact inv.imm d o v h
    · intro d x h
      have h':M.F d=some x:=h
      have hd:d≠b0:=fun e=>by subst e;rw[g4] at h';cases h'
      rw[hoth d hd];exact inv.far d x h'
    · exact inv.os
    · exact inv.tape
    · exact inv.out
    · intro key hkey
      have g1: ¬al key:=fun h=>hkey (.inl h)
      have g2:key≠nx:=fun h=>hkey (.inr h)
      have:=inv.fresh key g1
      simp [Mem.addT,Mem.addI,g2,this]
    · intro key bk hb
      by_cases ek:key=nx
      · subst ek
        simp only[dD,if_true,Option.some.injEq] at hb
        subst hb
        refine⟨b0,_,by simp [Mem.blockOf,aI.isTok,Mem.addT],hheap,⟨rfl,b0,cs.length+news.length,cap*n,by simp [Mem.addT],hfit,by rw[hsz];exact hcur,fun o ho=>?_⟩,g4,fun h=>by simp [aI.isTok] at h⟩
        simp only[Mem.addT,Mem.addI]
        rw[if_neg (by omega)]
        exact k4 o (by omega)
      · by_cases eq:key=q
        · subst eq;simp [dD,hqn] at hb
        · simp only[dD,ek,eq,if_false] at hb
          obtain⟨b,ob,q1,q2,q3,q4,q5⟩:=inv.live key bk hb
          have hbb:b≠b0:=fun e=>by subst e;exact eq (inv.inj key q bk .tok b hb hq q1 (by simp [Mem.blockOf,aI.isTok,hT]))
          refine⟨b,ob,Mem.blockOf_mono hle q1,by rw[hoth b hbb];exact q2,q3.grow hle (fun htk b' e' z' hT' o ho=>?_),q4,fun ht o=>?_⟩
          · cases bk<;>simp [aI.isTok] at htk
            cases ob<;>simp only[dC] at q3
            obtain⟨_,b2,e2,z2,r1,_,_,r4⟩:=q3
            rw[hT'] at r1;cases r1
            have:b=b':=by simpa [Mem.blockOf,aI.isTok,hT'] using q1.symm
            subst this
            simp only[Mem.addT,Mem.addI]
            rw[if_neg (by intro hc;exact hbb hc.1)]
            exact r4 o ho
          · simp only[Mem.addT,Mem.addI]
            rw[if_neg (by intro hc;exact hbb hc.1)]
            exact q5 ht o
    · intro m1 m2 b1 b2 b s1 s2 s3 s4
      have old: ∀k bk,dD (dD hp q none) nx (some .tok) k=some bk->((M.addI b0 cs.length news).addT nx (b0,cs.length+news.length,cap*n)).blockOf k bk=some b->
          (k=nx/\b=b0)\/(k≠nx/\k≠q/\hp k=some bk/\M.blockOf k bk=some b):=by
        intro k bk hb hbo
        by_cases ek:k=nx
        · subst ek
          simp only[dD,if_true,Option.some.injEq] at hb
          subst hb
          left;exact⟨rfl,by simpa [Mem.blockOf,aI.isTok,Mem.addT] using hbo.symm⟩
        · right
          have eq:k≠q:=fun e=>by subst e;simp [dD,ek] at hb
          simp only[dD,ek,eq,if_false] at hb
          obtain⟨b',ob,q1,_⟩:=inv.live k bk hb
          have q1':=Mem.blockOf_mono hle q1
          rw[hbo] at q1';cases q1'
          exact⟨ek,eq,hb,q1⟩
      have hqb:M.blockOf q .tok=some b0:=by simp [Mem.blockOf,aI.isTok,hT]
      rcases old m1 b1 s1 s3 with⟨r1,r2⟩|⟨r1,r2,r3,r4⟩<;>rcases old m2 b2 s2 s4 with⟨t1,t2⟩|⟨t1,t2,t3,t4⟩
      · rw[r1,t1]
      · subst r2;exact absurd (inv.inj m2 q b2 .tok b t3 hq t4 hqb) t2
      · subst t2;exact absurd (inv.inj m1 q b1 .tok b r3 hq r4 hqb) r2
      · exact inv.inj m1 m2 b1 b2 b r3 t3 r4 t4
    · intro g cells h;exact aQ.mono0 h1.I (inv.glob g cells h) (fun _ _ h=>h) (fun _ _ h=>h)
    · intros;trivial
  · have hk': ∀r∈rows++ys,r.cells.length=n:=by
      intro r hr'
      rcases List.mem_append.1 hr' with h|h
      · exact hkr r h
      · exact hky r h
    have hrel:bP (aQ M.I kC noT) ((rows++ys).flatMap AV.cells) (cs++news):=by rw[List.flatMap_append];exact hr.append hy
    refine Fh (cs:=cs++news) hk' hPr (bP.mono (fun a v h=>aQ.mono0 h1.I h (fun _ _ h=>h) (fun _ _ h=>h)) hrel) (fun j hj=>?_) (by simpa using hcap) ⟨rfl,rfl,?_⟩
    · simp only[Mem.addT,Mem.addI]
      by_cases hjc:j<cs.length
      · rw[if_neg (by omega),hI j hjc,List.getElem_append_left hjc]
      · have hj2:j<cs.length+news.length:=by simpa using hj
        rw[if_pos ⟨trivial,by omega,hj2⟩,List.getElem_append_right (by omega)]
        simp
    · simp only[Mem.addT,if_true,List.length_append]
      rw[hlc,hln,<-Nat.add_mul]
theorem oU (z:Array Value) (n:Nat):(Builtin.zeroCells z n).size=n*z.size:=by simp [Builtin.zeroCells]
theorem aLh (inv:Inv G M al hp W w) {nx:Nat} (hn: ¬al nx) {t ty:TypeId} {s x av:AV} {vs vx:Value} {u:List (Nat×Option aI)} (hs:M.rel s vs) (hx:M.rel x vx)
  (h:Be P hp nx t s x=some (av,u)): ∃v w' M',(Builtin.append_ #[t,t] ty #[vs,vx]).run P w= .ok v w'/\M.le M'/\Inv G M' (lD al nx) (lQ hp u) W w'/\M'.rel av v:=by
 unfold Be at h
 split at h
 ·cases h
 rename_i e he
 have ht:=qW he
 split at h
 case h_2=>cases h
 rename_i n by_ k rows tk k' ys tk' hsz hby
 obtain⟨i,hi,hsi⟩:=Az hsz
 have hbi:i.bytes=by_:=by simpa [dZ,hi] using hby
 obtain⟨A,c,cs,rfl,hc,hr,hkr,hPr,hlc,hb,hfull,htok⟩:=aQ.sl_cells inv hs
 obtain⟨A',c',news,rfl,hc',hy,hky,hPy,hln,hb',_,_⟩:=aQ.sl_cells inv hx
 split at h
 ·rename_i hys
  simp only[Option.some.injEq,Prod.mk.injEq] at h
  obtain⟨rfl,rfl⟩:=h
  have hys':ys=[]:=List.isEmpty_iff.1 hys
  subst hys'
  refine⟨.slice A rows.length c,w,M,?_,M.le_refl,inv.more fun k hk=> .inl hk,hs⟩
  cases A'<;>cases A<;>simp [Builtin.append_,dF ht,sizeOf,typeInfo,hi,Builtin.lenOf,hc,Builtin.firstCells,loadCells,loadCellsFrom,storeCells]
 ·rename_i hys
  have hys':ys≠[]:=fun e=>hys (by rw[e];rfl)
  split at h
  ·rename_i hcond
   obtain⟨rfl,rfl,h0,hb0,hbytes,hzl⟩:=hcond
   cases hz:dX P e with
   |none=>simp [hz] at hzl
   | some z=>
    obtain⟨i',zv,hi',hzz,hrz⟩:=Di hz
    rw[hi] at hi';cases hi'
    have hzs:zv.cells.size=k':=by
     have:=(hrz (I:=M.I) (L:=M.L) (T:=M.T)).1
     simp only[hz,Option.map_some,Option.some.injEq] at hzl
     rw[<-hzl,this];simp
    obtain⟨b',o',hA',_,hnews⟩:=hb' hys'
    subst hA'
    have hypos:0<ys.length:=List.length_pos_iff.2 hys'
    have hby1:(rows.length+ys.length)*i.bytes<=140737488355328:=by rw[hbi];exact hbytes
    have h63:((rows.length+ys.length:Nat):Int)<=9223372036854775807:=by
     have:=Nat.le_mul_of_pos_right (rows.length+ys.length) hb0
     omega
    have hkk: ∀r∈rows++ys,r.cells.length=k':=by
     intro r hr'
     rcases List.mem_append.1 hr' with h|h
     ·exact hkr r h
     ·exact hky r h
    have hrel:bP (aQ M.I kC noT) ((rows++ys).flatMap AV.cells) (cs++news):=by rw[List.flatMap_append];exact hr.append hy
    have hPP: ∀r∈rows++ys,∀x∈r.cells,x.pure=true:=by
     intro r hr'
     rcases List.mem_append.1 hr' with h|h
     ·exact hPr r h
     ·exact hPy r h
    have holds: ∀ad,A=some ad-> ∀j v,cs[j]?=some v->w.cell? (ad.add j)=some v:=by
     intro ad hA j v hj
     have hne:rows≠[]:=by
      intro e;subst e
      simp at hlc;subst hlc;simp at hj
     obtain⟨b2,o2,hA2,_,h3⟩:=hb hne
     rw[hA] at hA2;cases hA2
     exact h3 j v hj
    have hcells: ∀cap,rows.length+ys.length<=cap->((cs.toArray++news.toArray++Builtin.zeroCells zv.cells (cap - (rows.length+ys.length))).toList.take (cs++news).length=cs++news)/\
      (cs.toArray++news.toArray++Builtin.zeroCells zv.cells (cap - (rows.length+ys.length))).size=cap*k':=by
     intro cap hcap
     constructor
     ·simp only[Array.toList_append]
      rw[List.take_append_of_le_length (by simp)]
      exact List.take_of_length_le (by simp)
     ·simp only[Array.size_append,List.size_toArray,oU,hzs,hlc,hln,<-Nat.add_mul]
      congr 1;omega
    have grow:c<rows.length+ys.length->(A=none->rows=[]/\c=0)-> ∃v w' M',(Builtin.append_ #[t,t] ty #[.slice A rows.length c,.slice (some ⟨b',o',none⟩) ys.length c']).run P w= .ok v w'/\M.le M'/\
      Inv G M' (lD al nx) (dD hp nx (some .tok)) W w'/\M'.rel (.sl k' (rows++ys) (.tok nx)) v:=by
     intro hlt hnone
     cases A with
     |none=>
      obtain⟨hr0,hc0⟩:=hnone rfl
      subst hr0;subst hc0
      have hcs:cs=[]:=List.eq_nil_of_length_eq_zero (by simpa using hlc)
      subst hcs
      have hrun:=run_append_nil (P:=P) w t ty e i zv ht hi hzz ⟨b',o',none⟩ ys.length c' news (by rw[hln,hsi]) hnews (by omega) (by simpa using h63) (by have:=hby1;simp only[List.length_nil,Nat.zero_add] at this;omega)
      obtain⟨q1,q2⟩:=hcells (grownCap w ys.length 0 e) (by simpa using grownCap_ge w ys.length 0 e)
      obtain⟨M',m1,m2,m3⟩:=aF2 (e:=e) (cap:=grownCap w ys.length 0 e) inv.drew hn hkk hPP hrel q1 q2 (by simpa using grownCap_ge w ys.length 0 e)
      refine⟨_,_,M',hrun,m1,?_,by simpa using m3⟩
      simpa using m2
     |some ad=>
      have hrun:=run_append_grow (P:=P) w t ty e i zv ht hi hzz ad rows.length c cs (by rw[hlc,hsi]) (holds ad rfl) ⟨b',o',none⟩ ys.length c' news (by rw[hln,hsi]) hnews hlt h63 (growslice_fits hlt hby1)
      have hge:=grownCap_ge w (rows.length+ys.length) c e
      obtain⟨q1,q2⟩:=hcells (grownCap w (rows.length+ys.length) c e) hge
      obtain⟨M',m1,m2,m3⟩:=aF2 (e:=e) (cap:=grownCap w (rows.length+ys.length) c e) inv.drew hn hkk hPP hrel q1 q2 (by simpa using hge)
      exact⟨_,_,M',hrun,m1,by simpa using m2,by simpa using m3⟩
    split at h
    ·cases h
    ·cases h
    ·simp only[Option.some.injEq,Prod.mk.injEq] at h
     obtain⟨rfl,rfl⟩:=h
     have hcf:=hfull (.inl rfl)
     exact grow (by omega) (fun hA=>by
      have:rows=[]:=by
       rcases Decidable.em (rows=[]) with h|h
       ·exact h
       ·obtain⟨b2,o2,h2,_⟩:=hb h;rw[hA] at h2;cases h2
      exact⟨this,by rw[hcf,this];rfl⟩)
    ·rename_i q
     split at h
     ·rename_i hq
      simp only[Option.some.injEq,Prod.mk.injEq] at h
      obtain⟨rfl,rfl⟩:=h
      obtain⟨b,hA,hT,hI⟩:=htok q rfl
      by_cases hroom:rows.length+ys.length<=c
      ·subst hA
       obtain⟨b0,ob0,g1,g2,g3,g4,_⟩:=inv.live q _ hq
       have hb0':b0=b:=by simpa [Mem.blockOf,aI.isTok,hT] using g1.symm
       subst hb0'
       cases ob0<;>simp only[dC] at g3
       rename_i cur el fr
       obtain⟨rfl,b1,e1,z1,k1,k2,k3,k4⟩:=g3
       rw[hT] at k1;cases k1
       have hone: ∀u∈news,u.oneCell'=true:=by
        intro u hu
        obtain⟨j,hj,rfl⟩:=List.mem_iff_getElem.1 hu
        have hja:j< (ys.flatMap AV.cells).length:=by rw[hy.1];exact hj
        have hrr:=hy.get j hja hj
        obtain⟨r0,hr0,hx0⟩:=List.mem_flatMap.1 (List.getElem_mem hja)
        exact aQ.oneCell hrr (AV.one_of_pure (hPy r0 hr0 _ hx0))
       have hfit:rows.length*i.size+news.length<=cur.size:=by
        rw[hsi,hln,<-Nat.add_mul]
        exact Nat.le_trans (Nat.mul_le_mul_right _ hroom) k3
       have hrun:=yT (P:=P) (w:=w) (ty:=ty) ht hi b0 rows.length c cur g2 ⟨b',o',none⟩ ys.length c' news (by rw[hln,hsi]) hnews hone hroom hfit
       rw[hsi,<-hlc] at hrun
       obtain⟨M',m1,m2,m3⟩:=aT6 inv hn hkr hky hPP hr hy (by rw[hlc];exact hT) hq hI hroom g2 k3
       exact⟨_,_,M',hrun,m1,m2,by simpa using m3⟩
      ·obtain⟨v,w',M',m1,m2,m3,m4⟩:=grow (by omega) (fun hA'=>by rw[hA] at hA';cases hA')
       refine⟨v,w',M',m1,m2,?_,m4⟩
       refine m3.less fun k bk hk=>?_
       by_cases e1:k=nx
       ·subst e1;simpa [lQ,dD] using hk
       ·by_cases e2:k=q
        ·subst e2;simp [lQ,dD,e1] at hk
        ·simpa [lQ,dD,e1,e2] using hk
     ·cases h
  ·cases h
end Go.Proofs.Pv
