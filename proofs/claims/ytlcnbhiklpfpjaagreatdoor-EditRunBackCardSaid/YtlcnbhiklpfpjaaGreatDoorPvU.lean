/-
The abstract machine, part U: append that makes a slice that may change, or goes on with one.
Conditions: none but those that each statement names.
-/
import Derived.Test.YtlcnbhiklpfpjaaGreatDoorPvG
import Derived.Lib.AppendZerosOnto
set_option linter.unusedVariables false
set_option linter.unusedSimpArgs false
set_option maxRecDepth 100000
set_option maxHeartbeats 16000000
namespace Go.Proofs.Pv
open Go
variable {P:Program} {G:Nat->Option (List AV)} {M:Mem} {al:Nat->Prop} {hp:Hp} {W w:World}
theorem qX.list {L:Lo} {T:To} {I:jZ} {b o:Nat} {cs:List AV} (h:qX L T I w b o cs):
  ∃vs:List Value,bP (aQ I L T) cs vs/\ ∀j u,vs[j]?=some u->w.cell? ((⟨b,o,none⟩:Addr).add j)=some u:=by
 refine⟨(List.range cs.length).map fun i=>(w.cell? ⟨b,o+i,none⟩).getD undef,⟨by simp,fun i a v h1 h2=>?_⟩,fun j u hj=>?_⟩
 ·obtain⟨hi,rfl⟩:=List.getElem?_eq_some_iff.1 h1
  obtain⟨v',e1,e2⟩:=h i hi
  simp [hi,e1] at h2
  rw[<-h2];exact e2
 ·obtain⟨hj',hu⟩:=List.getElem?_eq_some_iff.1 hj
  have hj2:j<cs.length:=by simpa using hj'
  obtain⟨v',e1,e2⟩:=h j hj2
  rw[Addr.add_none,e1]
  simp [e1] at hu
  rw[hu]
theorem Js (inv:Inv G M al hp W w) {n:Nat} {x:AV} {vx:Value} {ys:List AV} {m:Nat} (hx:M.rel x vx) (h:cO hp n x=some (ys,m)):
  ∃A c news,vx= .slice A m c/\bP M.rel ys news/\news.length=m*n/\(0<m-> ∃a,A=some a/\ ∀j u,news[j]?=some u->w.cell? (a.add j)=some u):=by
 unfold cO at h
 split at h
 ·rename_i k rows tk
  split at h
  ·rename_i hk
   simp only[Option.some.injEq,Prod.mk.injEq] at h
   obtain⟨rfl,rfl⟩:=h
   subst hk
   obtain⟨A,c,cs,rfl,hc,hr,hkr,hPr,hlc,hb,_,_⟩:=aQ.sl_cells inv hx
   refine⟨A,c,cs,rfl,bP.mono (fun a v hv=>hv.of_pure) hr,hlc,fun h0=>?_⟩
   obtain⟨b,o,hA,_,h3⟩:=hb (List.length_pos_iff.1 h0)
   exact⟨_,hA,h3⟩
  ·cases h
 ·rename_i key off m' k
  split at h
  ·rename_i cs hk
   split at h
   ·rename_i hc
    obtain⟨rfl,hle⟩:=hc
    simp only[Option.some.injEq,Prod.mk.injEq] at h
    obtain⟨rfl,rfl⟩:=h
    cases hx with
    |msl hL hT hz hcap=>
     obtain⟨b,hb,hcell⟩:=tZ inv hk
     rw[hL] at hb;cases hb
     obtain⟨vs,h1,h2⟩:=((hcell.drop off).take (m'*k)).list
     rw[Nat.zero_add] at h2
     refine⟨_,_,vs,rfl,h1,?_,fun _=>⟨_,rfl,h2⟩⟩
     rw[<-h1.1]
     simp;omega
   ·cases h
  ·cases h
 ·rename_i key off m' cc k
  split at h
  ·rename_i cs hk
   split at h
   ·rename_i hc
    obtain⟨rfl,hle⟩:=hc
    simp only[Option.some.injEq,Prod.mk.injEq] at h
    obtain⟨rfl,rfl⟩:=h
    cases hx with
    |mcap hL hT hz hcap=>
     obtain⟨b,hb,hcell⟩:=tZ inv hk
     rw[hL] at hb;cases hb
     obtain⟨vs,h1,h2⟩:=((hcell.drop off).take (m'*k)).list
     rw[Nat.zero_add] at h2
     refine⟨_,_,vs,rfl,h1,?_,fun _=>⟨_,rfl,h2⟩⟩
     rw[<-h1.1]
     simp;omega
   ·cases h
  ·cases h
 ·cases h
theorem aO0 (inv:Inv G M al hp W w) {nx:Nat} (hn: ¬al nx) {cells:List AV} {cs:List Value} {c:Array Value} (e:TypeId) (hr:bP M.rel cells cs) (hc:c.toList.take cs.length=cs) (hl:cs.length<=c.size):
  M.le (M.addL nx w.heap.size c.size)/\Inv G (M.addL nx w.heap.size c.size) (lD al nx) (dD hp nx (some (.cells cells))) W (w.alloc (.cells c e)):=by
 have hle:M.le (M.addL nx w.heap.size c.size):=Mem.le_addL (inv.fresh nx hn)
 refine inv.alloc hn (z:=c.size) (.cells cells) (.cells c e) rfl ⟨rfl,by rw[hr.1];exact hl,fun i g1 g2=>?_,w.heap.size,c.size,by simp [Mem.addL],Nat.le_refl _⟩
 have hi:i<cs.length:=by rw[<-hr.1];exact g1
 have:c[i]=cs[i]:=by
  have h1:(c.toList.take cs.length)[i]?=cs[i]?:=by rw[hc]
  rw[List.getElem?_take,if_pos hi,List.getElem?_eq_getElem hi] at h1
  simpa [g2] using h1
 rw[this]
 exact M.rel_mono hle (hr.get i g1 hi)
theorem Inv.rename (inv:Inv G M al hp W w) {nx key b z:Nat} {cells:List AV} (hn: ¬al nx) (hk:hp key=some (.cells cells)) (hL:M.L key=some b) (hT:M.T key=some (b,0,z)):
  M.le (M.addL nx b z)/\Inv G (M.addL nx b z) (lD al nx) (dD (dD hp key none) nx (some (.cells cells))) W w:=by
 have hfr:=inv.fresh nx hn
 have hle:M.le (M.addL nx b z):=Mem.le_addL hfr
 obtain⟨b0,ob0,q1,q2,q3,q4,q5⟩:=inv.live key _ hk
 have hb0:b0=b:=by simpa [Mem.blockOf,aI.isTok,hL] using q1.symm
 subst hb0
 refine⟨hle,?_⟩
 constructor
 ·exact inv.imm
 ·exact inv.far
 ·exact inv.os
 ·exact inv.tape
 ·exact inv.out
 ·intro q hq
  have h1: ¬al q:=fun h=>hq (.inl h)
  have h2:q≠nx:=fun h=>hq (.inr h)
  have:=inv.fresh q h1
  simp [Mem.addL,h2,this]
 ·intro q bk h
  by_cases e:q=nx
  ·subst e
   simp only[dD,if_true,Option.some.injEq] at h
   subst h
   refine⟨b0,ob0,by simp [Mem.blockOf,aI.isTok,Mem.addL],q2,?_,q4,fun _=>q5 rfl⟩
   cases ob0<;>simp only[dC] at q3 ⊢
   obtain⟨r1,r2,r3,b',z',r4,r5⟩:=q3
   rw[hT] at r4;cases r4
   exact⟨r1,r2,fun i h1 h2=>M.rel_mono hle (r3 i h1 h2),b0,z,by simp [Mem.addL],r5⟩
  ·by_cases e2:q=key
   ·subst e2;simp [dD,e] at h
   ·simp only[dD,e,e2,if_false] at h
    obtain⟨b',x,h1,h2,h3,h4,h5⟩:=inv.live q bk h
    exact⟨b',x,Mem.blockOf_mono hle h1,h2,h3.grow hle (fun htk b' e' z' hT o ho=>by
     cases bk<;>simp [aI.isTok] at htk
     cases x<;>simp only[dC] at h3
     obtain⟨_,b1,e1,z1,g1,_,_,g4⟩:=h3
     rw[hT] at g1;cases g1;exact g4 o ho),h4,h5⟩
 ·intro k1 k2 b1 b2 q g1 g2 g3 g4
  have old: ∀k bk,dD (dD hp key none) nx (some (.cells cells)) k=some bk->(M.addL nx b0 z).blockOf k bk=some q->
    (k=nx/\q=b0)\/(k≠nx/\k≠key/\hp k=some bk/\M.blockOf k bk=some q):=by
   intro k bk hb hbo
   by_cases ek:k=nx
   ·subst ek
    simp only[dD,if_true,Option.some.injEq] at hb
    subst hb
    left;exact⟨rfl,by simpa [Mem.blockOf,aI.isTok,Mem.addL] using hbo.symm⟩
   ·right
    have eq:k≠key:=fun e=>by subst e;simp [dD,ek] at hb
    simp only[dD,ek,eq,if_false] at hb
    obtain⟨b',ob,r1,_⟩:=inv.live k bk hb
    have r1':=Mem.blockOf_mono hle r1
    rw[hbo] at r1';cases r1'
    exact⟨ek,eq,hb,r1⟩
  rcases old k1 b1 g1 g3 with⟨r1,r2⟩|⟨r1,r2,r3,r4⟩<;>rcases old k2 b2 g2 g4 with⟨t1,t2⟩|⟨t1,t2,t3,t4⟩
  ·rw[r1,t1]
  ·subst r2;exact absurd (inv.inj k2 key b2 _ q t3 hk t4 q1) t2
  ·subst t2;exact absurd (inv.inj k1 key b1 _ q r3 hk r4 q1) r2
  ·exact inv.inj k1 k2 b1 b2 q r3 t3 r4 t4
 ·exact inv.glob
 ·intros;trivial
theorem roomM (inv:Inv G M al hp W w) {nx key b z q l:Nat} {cells ys:List AV} {news:List Value} {cur:Array Value} {el:TypeId} (hn: ¬al nx) (hk:hp key=some (.cells cells)) (hL:M.L key=some b) (hT:M.T key=some (b,0,z))
  (hg:w.heap[b]?=some (.cells cur el (0,0))) (hq:cells.length=q) (hlen:news.length=l) (hfit:q+l<=cur.size) (hz:z<=cur.size) (h1: ∀(i:Nat) (h:i<cells.length) (h':i<cur.size),M.rel cells[i] cur[i]) (hy:bP M.rel ys news):
  M.le (M.addL nx b z)/\Inv G (M.addL nx b z) (lD al nx) (lQ hp [(key,none),(nx,some (.cells (cells++ys)))]) W (w.setRow b (cur.toList.take q++news++cur.toList.drop (q+news.length)).toArray):=by
 subst hq;subst hlen
 have hnew:=setRow_heap w b cur (cur.toList.take cells.length++news++cur.toList.drop (cells.length+news.length)).toArray el (0,0) hg
 have hoth:=fun q hq=>setRow_other w b q (cur.toList.take cells.length++news++cur.toList.drop (cells.length+news.length)).toArray hq
 have hsz:(cur.toList.take cells.length++news++cur.toList.drop (cells.length+news.length)).toArray.size=cur.size:=by simp;omega
 have hl:(cur.toList.take cells.length).length=cells.length:=by simp;omega
 have inv1:=inv.turn (w':=w.setRow b (cur.toList.take cells.length++news++cur.toList.drop (cells.length+news.length)).toArray) (old:= .cells cells) (new:= .cells (cells++ys))
  (ob:= .cells (cur.toList.take cells.length++news++cur.toList.drop (cells.length+news.length)).toArray el (0,0)) hk hL rfl rfl rfl rfl rfl hoth hnew
  ⟨rfl,by rw[hsz,List.length_append,hy.1];exact hfit,fun j g1 g2=>by
   by_cases hj:j<cells.length
   ·have hjc:j<cur.size:=by omega
    have e0:(cur.toList.take cells.length++news++cur.toList.drop (cells.length+news.length))[j]?=some cur[j]:=by
     rw[List.append_assoc,List.getElem?_append_left (by omega),List.getElem?_take,if_pos hj]
     simp [hjc]
    have e1:(cur.toList.take cells.length++news++cur.toList.drop (cells.length+news.length)).toArray[j]=cur[j]:=(List.getElem?_eq_some_iff.1 e0).2
    rw[e1,List.getElem_append_left hj]
    exact h1 j hj hjc
   ·have hj2:j - cells.length<ys.length:=by simp at g1;omega
    have hj3:j - cells.length<news.length:=by rw[<-hy.1];exact hj2
    have e0:(cur.toList.take cells.length++news++cur.toList.drop (cells.length+news.length))[j]?=some news[j - cells.length]:=by
     rw[List.append_assoc,List.getElem?_append_right (by omega),List.getElem?_append_left (by omega),hl,List.getElem?_eq_getElem hj3]
    have e1:(cur.toList.take cells.length++news++cur.toList.drop (cells.length+news.length)).toArray[j]=news[j - cells.length]:=(List.getElem?_eq_some_iff.1 e0).2
    rw[e1,List.getElem_append_right (by omega)]
    exact hy.get _ hj2 hj3,b,z,hT,by rw[hsz];exact hz⟩
 obtain⟨m1,m2⟩:=inv1.rename (cells:=cells++ys) hn (by simp [dD]) hL hT
 refine⟨m1,m2.less fun q bk hq=>?_⟩
 simp only[lQ,dD] at hq ⊢
 by_cases e1:q=nx
 ·simp only[e1,if_true] at hq ⊢;exact hq
 ·by_cases e2:q=key
  ·subst e2;simp [e1] at hq
  ·simp only[e1,e2,if_false] at hq ⊢;exact hq
theorem Kw (inv:Inv G M al hp W w) {key b off:Nat} {cs ys:List AV} {news:List Value} (hL:M.L key=some b) (hk:hp key=some (.cells cs)) (hle:off+ys.length<=cs.length) (hone:ys.all AV.one=true) (hy:bP M.rel ys news):
  ∃w',(storeCells ⟨b,off,none⟩ news).run P w= .ok () w'/\Inv G M al (dD hp key (some (.cells (splice cs off ys)))) W w':=by
 obtain⟨b',ob,g1,g2,g3,g4,g5⟩:=inv.live _ _ hk
 have hb:b'=b:=by simpa [Mem.blockOf,aI.isTok,hL] using g1.symm
 subst hb
 cases ob<;>simp only[dC] at g3
 rename_i c e fr
 obtain⟨rfl,hs,hr,bz,zz,hTz,hzz⟩:=g3
 have hnl:news.length=ys.length:=hy.1.symm
 have hone': ∀u∈news,u.oneCell'=true:=by
  intro u hu
  obtain⟨j,hj,rfl⟩:=List.mem_iff_getElem.1 hu
  have hja:j<ys.length:=by rw[hy.1];exact hj
  exact aQ.oneCell (hy.get j hja hj) (List.all_eq_true.1 hone _ (List.getElem_mem hja))
 have hst:=run_storeCells_at P b' off e news 0 c w g2 (by omega) hone'
 simp only[Nat.add_zero] at hst
 have hrel:bP (aQ M.I M.L M.T) (splice cs off ys) ((c.toList.take cs.length).take off++news++(c.toList.take cs.length).drop (off+news.length)):=
  Oi (bP.of_get (by simp;omega) (fun i h h'=>by have:=hr i h (by omega);rw[List.getElem_take];rwa [<-Array.getElem_toList] at this)) hy
 refine⟨w.setRow b' (c.toList.take off++news++c.toList.drop (off+news.length)).toArray,hst,?_⟩
 refine inv.turn (old:= .cells cs) (new:= .cells (splice cs off ys)) hk hL rfl rfl rfl rfl rfl (fun k hk'=>setRow_other w b' k _ hk') (setRow_heap w b' c _ e (0,0) g2) ?_
 have hlen:(splice cs off ys).length=cs.length:=by simp [splice];omega
 refine⟨rfl,by rw[hlen];simp;omega,fun i h1' h2'=>?_,bz,zz,hTz,by simp;omega⟩
 show aQ M.I M.L M.T _ _
 have hi:i<cs.length:=by omega
 have:=hrel.get i h1' (by rw[<-hrel.1];exact h1')
 refine Eq.mp (congrArg _ ?_) this
 simp only[List.getElem_toArray]
 apply Option.some.inj
 rw[<-List.getElem?_eq_getElem,<-List.getElem?_eq_getElem]
 simp only[List.getElem?_append,List.length_append,List.length_take,List.getElem?_take,List.getElem?_drop,Array.length_toList]
 have e1:min off (min cs.length c.size)=off:=by omega
 have e2:min off c.size=off:=by omega
 rw[e1,e2]
 split
 ·split<;>rfl
 ·rw[if_pos (by omega)]
theorem aGb (inv:Inv G M al hp W w) {t t1 ty e:TypeId} {x:AV} {vx:Value} {key b off m l k cap:Nat} {cs ys:List AV} (he:nN P t=some e) (hsz:sz P e=some k) (hx:M.rel x vx) (hk:hp key=some (.cells cs)) (hxc:cO hp k x=some (ys,l))
  (hle:off+m*k<=cs.length) (h0l:0<l) (honet:(ys.take (min l m*k)).all AV.one=true) (hL:M.L key=some b):
  ∃v w',(Builtin.copy_ #[t,t1] ty #[.slice (some ⟨b,off,none⟩) m cap,vx]).run P w= .ok v w'/\Inv G M al (lQ hp [(key,some (.cells (splice cs off (ys.take (min l m*k)))))]) W w'/\M.rel (.int .i64 (min l m:Nat)) v:=by
 have ht:=qW he
 obtain⟨i,hi,hsi⟩:=Az hsz
 obtain⟨A',c',news,rfl,hy,hln,hA'⟩:=Js inv hx hxc
 obtain⟨a,rfl,hnews⟩:=hA' h0l
 have hmin:min l m*k<=news.length:=by rw[hln];exact Nat.mul_le_mul_right _ (Nat.min_le_left _ _)
 have hmin2:min l m*k<=m*k:=Nat.mul_le_mul_right _ (Nat.min_le_right _ _)
 have hyt:bP M.rel (ys.take (min l m*k)) (news.take (min l m*k)):=by
  refine⟨by simp [hy.1],fun i a v h1 h2=>?_⟩
  rw[List.getElem?_take] at h1 h2
  split at h1
  ·rename_i hlt;rw[if_pos hlt] at h2;exact hy.2 i a v h1 h2
  ·cases h1
 obtain⟨w',h1,h2⟩:=Kw (P:=P) inv (off:=off) hL hk (by rw[List.length_take];omega) honet hyt
 have hload:(loadCells a (min l m*k)).run P w= .ok (news.take (min l m*k)).toArray w:=by
  have:=run_loadCells_list (P:=P) w a (news.take (min l m*k)) (fun j v hj=>by
   rw[List.getElem?_take] at hj
   split at hj
   ·exact hnews j v hj
   ·cases hj)
  rwa [List.length_take,Nat.min_eq_left hmin] at this
 refine⟨.int .i64 (min l m:Nat),w',?_,h2,.int⟩
 have hso:(sizeOf e).run P w= .ok k w:=run_sizeOf hsz
 simp [Builtin.copy_,dF ht,Builtin.lenOf,hso,Builtin.firstCells,hload,h1,goInt]
theorem aRl (inv:Inv G M al hp W w) {t t1 ty:TypeId} {d x av:AV} {vd vx:Value} {u:List (Nat×Option aI)} (hd:M.rel d vd) (hx:M.rel x vx) (h:pF P hp t d x=some (av,u)):
  ∃v w',(Builtin.copy_ #[t,t1] ty #[vd,vx]).run P w= .ok v w'/\Inv G M al (lQ hp u) W w'/\M.rel av v:=by
 unfold pF at h
 split at h
 ·rename_i e key off m k he
  split at h
  case h_2=>cases h
  rename_i n hsz
  split at h
  case h_2=>cases h
  rename_i cs ys l hk hxc
  split at h
  case isFalse=>cases h
  rename_i hc
  obtain⟨rfl,hle,h0l,hone⟩:=hc
  simp only[Option.some.injEq,Prod.mk.injEq] at h
  obtain⟨rfl,rfl⟩:=h
  cases hd with
  |msl hL hT hzb hcap=>exact aGb inv he hsz hx hk hxc hle h0l (by rw[List.all_eq_true] at hone ⊢;exact fun x hx=>hone x (List.mem_of_mem_take hx)) hL
 ·rename_i e key off m c0 k he
  split at h
  case h_2=>cases h
  rename_i n hsz
  split at h
  case h_2=>cases h
  rename_i cs ys l hk hxc
  split at h
  ·rename_i hc
   obtain⟨rfl,hle,h0l,hone⟩:=hc
   simp only[Option.some.injEq,Prod.mk.injEq] at h
   obtain⟨rfl,rfl⟩:=h
   cases hd with
   |mcap hL hT hzb hcap=>exact aGb inv he hsz hx hk hxc hle h0l hone hL
  ·split at h
   ·rename_i hl0
    subst hl0
    simp only[Option.some.injEq,Prod.mk.injEq] at h
    obtain⟨rfl,rfl⟩:=h
    obtain⟨A',c',news,rfl,hy,hln,hA'⟩:=Js inv hx hxc
    cases hd with
    |mcap hL hT hzb hcap=>
     refine⟨.int .i64 0,w,?_,inv,.int⟩
     have hso:(sizeOf e).run P w= .ok n w:=run_sizeOf hsz
     cases A'<;>simp [Builtin.copy_,dF (qW he),Builtin.lenOf,hso,Builtin.firstCells,goInt,loadCells,loadCellsFrom,storeCells]
   ·cases h
 ·cases h
theorem aRm (inv:Inv G M al hp W w) {nx:Nat} (hn: ¬al nx) {t ty:TypeId} {s x av:AV} {vs vx:Value} {u:List (Nat×Option aI)} (hs:M.rel s vs) (hx:M.rel x vx)
  (h:gI P hp nx t s x=some (av,u)): ∃v w' M',(Builtin.append_ #[t,t] ty #[vs,vx]).run P w= .ok v w'/\M.le M'/\Inv G M' (lD al nx) (lQ hp u) W w'/\M'.rel av v:=by
 unfold gI at h
 split at h
 ·cases h
 rename_i e he
 have ht:=qW he
 split at h
 case h_2=>cases h
 rename_i n by_ hsz hby
 obtain⟨i,hi,hsi⟩:=Az hsz
 have hbi:i.bytes=by_:=by simpa [dZ,hi] using hby
 split at h
 ·cases h
 rename_i ys m hxc
 obtain⟨A',c',news,rfl,hy,hln,hA'⟩:=Js inv hx hxc
 split at h
 case isFalse=>cases h
 rename_i hcond
 obtain⟨h0m,h0,hb0,hzl,hone⟩:=hcond
 obtain⟨a,rfl,hnews⟩:=hA' h0m
 cases hz:dX P e with
 |none=>simp [hz] at hzl
 |some z=>
 obtain⟨i',zv,hi',hzz,hrz⟩:=Di hz
 rw[hi] at hi';cases hi'
 have hzs:zv.cells.size=n:=by
  have:=(hrz (I:=M.I) (L:=M.L) (T:=M.T)).1
  simp only[hz,Option.map_some,Option.some.injEq] at hzl
  rw[<-hzl,this];simp
 have hone': ∀u∈news,u.oneCell'=true:=by
  intro u hu
  obtain⟨j,hj,rfl⟩:=List.mem_iff_getElem.1 hu
  have hja:j<ys.length:=by rw[hy.1];exact hj
  exact aQ.oneCell (hy.get j hja hj) (List.all_eq_true.1 hone _ (List.getElem_mem hja))
 have hbig: ∀r,(r+m)*by_<=140737488355328->((r+m:Nat):Int)<=9223372036854775807/\(r+m)*i.bytes<=140737488355328:=by
  intro r hr
  have:=Nat.le_mul_of_pos_right (r+m) hb0
  exact⟨by omega,by rw[hbi];exact hr⟩
 have grow: ∀(A:Option Addr) (r c:Nat) (cells:List AV) (cs:List Value),bP M.rel cells cs->cs.length=r*n->(∀ad,A=some ad-> ∀j v,cs[j]?=some v->w.cell? (ad.add j)=some v)->(A=none->r=0/\c=0)->c<r+m->(r+m)*by_<=140737488355328->
   ∃v w' M',(Builtin.append_ #[t,t] ty #[.slice A r c,.slice (some a) m c']).run P w= .ok v w'/\M.le M'/\Inv G M' (lD al nx) (dD hp nx (some (.cells (cells++ys)))) W w'/\M'.rel (.msl nx 0 (r+m) n) v:=by
  intro A r c cells cs hr hlc holds hnone hlt hbytes
  obtain⟨h63,hby1⟩:=hbig r hbytes
  have hrel:bP M.rel (cells++ys) (cs++news):=hr.append hy
  have hcells: ∀cap,r+m<=cap->((cs.toArray++news.toArray++Builtin.zeroCells zv.cells (cap - (r+m))).toList.take (cs++news).length=cs++news)/\
    (cs.toArray++news.toArray++Builtin.zeroCells zv.cells (cap - (r+m))).size=cap*n:=by
   intro cap hcap
   constructor
   ·simp only[Array.toList_append]
    rw[List.take_append_of_le_length (by simp)]
    exact List.take_of_length_le (by simp)
   ·simp only[Array.size_append,List.size_toArray,oU,hzs,hlc,hln,<-Nat.add_mul]
    congr 1;omega
  have hfin: ∀cap,r+m<=cap->M.le (M.addL nx w.heap.size (cap*n))/\Inv G (M.addL nx w.heap.size (cap*n)) (lD al nx) (dD hp nx (some (.cells (cells++ys)))) W
    (w.drew.alloc (.cells (cs.toArray++news.toArray++Builtin.zeroCells zv.cells (cap - (r+m))) e))/\
    (M.addL nx w.heap.size (cap*n)).rel (.msl nx 0 (r+m) n) (.slice (some ⟨w.heap.size,0,none⟩) (r+m) cap):=by
   intro cap hcap
   obtain⟨q1,q2⟩:=hcells cap hcap
   obtain⟨m1,m2⟩:=aO0 inv.drew hn e hrel q1 (by
    rw[q2,List.length_append,hlc,hln,<-Nat.add_mul];exact Nat.mul_le_mul_right _ hcap)
   rw[q2] at m1 m2
   exact⟨m1,m2,.msl (b:=w.heap.size) (z:=cap*n) (by simp [Mem.addL]) (by simp [Mem.addL]) (by omega) hcap⟩
  cases A with
  |none=>
   obtain⟨hr0,hc0⟩:=hnone rfl
   subst hr0;subst hc0
   have hcs:cs=[]:=List.eq_nil_of_length_eq_zero (by simpa using hlc)
   subst hcs
   have hrun:=run_append_nil (P:=P) w t ty e i zv ht hi hzz a m c' news (by rw[hln,hsi]) hnews h0m (by simpa using h63) (by simp only[Nat.zero_add] at hby1;omega)
   obtain⟨m1,m2,m3⟩:=hfin (grownCap w m 0 e) (by simpa using grownCap_ge w m 0 e)
   refine⟨_,_,_,hrun,m1,?_,by simpa using m3⟩
   simpa using m2
  |some ad=>
   have hrun:=run_append_grow (P:=P) w t ty e i zv ht hi hzz ad r c cs (by rw[hlc,hsi]) (holds ad rfl) a m c' news (by rw[hln,hsi]) hnews hlt h63 (growslice_fits hlt hby1)
   obtain⟨m1,m2,m3⟩:=hfin (grownCap w (r+m) c e) (grownCap_ge w (r+m) c e)
   exact⟨_,_,_,hrun,m1,m2,m3⟩
 split at h
 ·rename_i k rows tk
  split at h
  case isFalse=>cases h
  rename_i hc
  obtain⟨rfl,htk,hbytes⟩:=hc
  simp only[Option.some.injEq,Prod.mk.injEq] at h
  obtain⟨rfl,rfl⟩:=h
  obtain⟨A,c,cs,rfl,hc,hr,hkr,hPr,hlc,hb,hfull,_⟩:=aQ.sl_cells inv hs
  have hcf:c=rows.length:=by
   rcases htk with h|h
   ·exact hfull (.inr h)
   ·exact hfull (.inl h.1)
  obtain⟨v,w',M',m1,m2,m3,m4⟩:=grow A rows.length c _ cs (bP.mono (fun a v hv=>hv.of_pure) hr) hlc (by
    intro ad hA j v hj
    have hne:rows≠[]:=by
     intro e;subst e
     simp at hlc;subst hlc;simp at hj
    obtain⟨b2,o2,hA2,_,h3⟩:=hb hne
    rw[hA] at hA2;cases hA2
    exact h3 j v hj) (fun hA=>by
    have:rows=[]:=by
     rcases Decidable.em (rows=[]) with h|h
     ·exact h
     ·obtain⟨b2,o2,h2,_⟩:=hb h;rw[hA] at h2;cases h2
    exact⟨by rw[this];rfl,by rw[hcf,this];rfl⟩) (by omega) hbytes
  exact⟨v,w',M',m1,m2,m3,m4⟩
 ·rename_i key off r k
  split at h
  case h_2=>cases h
  rename_i cells hk
  split at h
  case isFalse=>cases h
  rename_i hc
  obtain⟨rfl,rfl,hcl,hbytes⟩:=hc
  simp only[Option.some.injEq,Prod.mk.injEq] at h
  obtain⟨rfl,rfl⟩:=h
  cases hs with
  | @msl _ _ _ _ _ _ b c z hL hT hzb hcap=>
  obtain⟨b',hb',hcell⟩:=tZ inv hk
  rw[hL] at hb';cases hb'
  by_cases hroom:r+m<=c
  ·obtain⟨b0,ob0,g1,g2,g3,g4,g5⟩:=inv.live key _ hk
   have hb0':b0=b:=by simpa [Mem.blockOf,aI.isTok,hL] using g1.symm
   subst hb0'
   cases ob0<;>simp only[dC] at g3
   rename_i cur el fr
   obtain⟨rfl,k1,k2,b1,z1,k3,k4⟩:=g3
   rw[hT] at k3;cases k3
   have hcn:r*k+m*k<=c*k:=by rw[<-Nat.add_mul];exact Nat.mul_le_mul_right _ hroom
   have hfit:r*i.size+news.length<=cur.size:=by rw[hsi,hln];omega
   have hrun:=yT (P:=P) (w:=w) (ty:=ty) ht hi b0 r c cur g2 a m c' news (by rw[hln,hsi]) hnews hone' hroom hfit
   rw[hsi] at hrun
   obtain⟨m1,m2⟩:=roomM inv hn hk hL hT g2 hcl hln (by rw[hsi,hln] at hfit;exact hfit) k4 k2 hy
   exact⟨_,_,_,hrun,m1,m2,.msl (b:=b0) (z:=z) (by simp [Mem.addL]) (by simp [Mem.addL]) (by omega) hroom⟩
  ·obtain⟨cs,q1,q2⟩:=hcell.list
   obtain⟨v,w',M',m1,m2,m3,m4⟩:=grow (some ⟨b,0,none⟩) r c cells cs q1 (by rw[<-q1.1];exact hcl) (by
    intro ad hA j v hj
    simp only[Option.some.injEq] at hA
    subst hA
    exact q2 j v hj) (fun hA=>by cases hA) (by omega) hbytes
   refine⟨v,w',M',m1,m2,m3.less fun q bk hq=>?_,m4⟩
   simp only[lQ,dD] at hq ⊢
   by_cases e1:q=nx
   ·simp only[e1,if_true] at hq ⊢;exact hq
   ·by_cases e2:q=key
    ·subst e2;simp [e1] at hq
    ·simp only[e1,e2,if_false] at hq ⊢;exact hq
 ·cases h
theorem aAp (inv:Inv G M al hp W w) {nx:Nat} (hn: ¬al nx) {e:TypeId} {i:TypeInfo} {zv:Value} {n r m c:Nat} {cells ys:List AV} {cs news:List Value} {zs:Array Value} (hr:bP M.rel cells cs) (hlc:cs.length=r*n) (hy:bP M.rel ys news) (hln:news.length=m*n) (cap:Nat) (hcap:r+m<=cap) (hzs:zs.size=(cap - (r+m))*n):
  M.le (M.addL nx w.heap.size (cap*n))/\Inv G (M.addL nx w.heap.size (cap*n)) (lD al nx) (dD hp nx (some (.cells (cells++ys)))) W
   (w.drew.alloc (.cells (cs.toArray++news.toArray++zs) e))/\
   (M.addL nx w.heap.size (cap*n)).rel (.msl nx 0 (r+m) n) (.slice (some ⟨w.heap.size,0,none⟩) (r+m) cap):=by
 have hrel:bP M.rel (cells++ys) (cs++news):=hr.append hy
 have q1:(cs.toArray++news.toArray++zs).toList.take (cs++news).length=cs++news:=by
  simp only[Array.toList_append]
  rw[List.take_append_of_le_length (by simp)]
  exact List.take_of_length_le (by simp)
 have q2:(cs.toArray++news.toArray++zs).size=cap*n:=by
  simp only[Array.size_append,List.size_toArray,hzs,hlc,hln,<-Nat.add_mul]
  congr 1;omega
 obtain⟨m1,m2⟩:=aO0 inv.drew hn e hrel q1 (by
  rw[q2,List.length_append,hlc,hln,<-Nat.add_mul];exact Nat.mul_le_mul_right _ hcap)
 rw[q2] at m1 m2
 exact⟨m1,m2,.msl (b:=w.heap.size) (z:=cap*n) (by simp [Mem.addL]) (by simp [Mem.addL]) (by omega) hcap⟩
theorem aRn (inv:Inv G M al hp W w) {nx:Nat} (hn: ¬al nx) {t ty:TypeId} {s x av:AV} {vs vx:Value} {u:List (Nat×Option aI)} (hs:M.rel s vs) (hx:M.rel x vx)
  (h:kE P hp nx t s x=some (av,u)): ∃v w' M',(Builtin.append_ #[t,t] ty #[vs,vx]).run P w= .ok v w'/\M.le M'/\Inv G M' (lD al nx) (lQ hp u) W w'/\M'.rel av v:=by
 unfold kE at h
 split at h
 case h_2=>cases h
 rename_i e key off c z k he
 have ht:=qW he
 split at h
 case h_2=>cases h
 rename_i n by_ cs ys m hsz hby hk hxc
 obtain⟨i,hi,hsi⟩:=Az hsz
 have hbi:i.bytes=by_:=by simpa [dZ,hi] using hby
 split at h
 case isFalse=>cases h
 rename_i hc
 obtain⟨rfl,rfl,h0,hb0,hzl,hbytes,hone,hzc⟩:=hc
 obtain⟨A',c',news,rfl,hy,hln,hA'⟩:=Js inv hx hxc
 cases hs with
 | @mcap _ _ _ _ _ _ _ b z' hL hT hzb hcap=>
 split at h
 ·rename_i hm
  subst hm
  simp only[Option.some.injEq,Prod.mk.injEq] at h
  obtain⟨rfl,rfl⟩:=h
  refine⟨.slice (some ⟨b,0,none⟩) c z,w,M,?_,M.le_refl,inv.more fun q hq=> .inl hq,.mcap hL hT hzb hcap⟩
  have hso:(sizeOf e).run P w= .ok k w:=run_sizeOf hsz
  cases A'<;>simp [Builtin.append_,dF ht,hso,Builtin.lenOf,Builtin.firstCells,loadCells,loadCellsFrom,storeCells,hcap]
 ·rename_i hm
  obtain⟨a,rfl,hnews⟩:=hA' (by omega)
  have hone': ∀u∈news,u.oneCell'=true:=by
   intro u hu
   obtain⟨j,hj,rfl⟩:=List.mem_iff_getElem.1 hu
   have hja:j<ys.length:=by rw[hy.1];exact hj
   exact aQ.oneCell (hy.get j hja hj) (List.all_eq_true.1 hone _ (List.getElem_mem hja))
  obtain⟨b0,ob0,g1,g2,g3,g4,g5⟩:=inv.live key _ hk
  have hb0':b0=b:=by simpa [Mem.blockOf,aI.isTok,hL] using g1.symm
  subst hb0'
  split at h
  ·rename_i hroom
   simp only[Option.some.injEq,Prod.mk.injEq] at h
   obtain⟨rfl,rfl⟩:=h
   have g3':=g3
   cases ob0<;>simp only[dC] at g3
   rename_i cur el fr
   obtain⟨rfl,k1,k2,b1,z1,k3,k4⟩:=g3
   rw[hT] at k3;cases k3
   have hcn:c*k+m*k<=z*k:=by rw[<-Nat.add_mul];exact Nat.mul_le_mul_right _ hroom
   have hfit:c*i.size+news.length<=cur.size:=by rw[hsi,hln];omega
   have hrun:=yT (P:=P) (w:=w) (ty:=ty) ht hi b0 c z cur g2 a m c' news (by rw[hln,hsi]) hnews hone' hroom hfit
   rw[hsi] at hrun
   obtain⟨w',h1,h2⟩:=Kw (P:=P) inv (off:=c*k) hL hk (by rw[hy.1,hln];omega) hone hy
   have hst:=run_storeCells_at P b0 (c*k) el news 0 cur w g2 (by omega) hone'
   simp only[Nat.add_zero] at hst
   rw[hst] at h1
   cases h1
   exact⟨_,_,M,hrun,M.le_refl,h2.more fun q hq=> .inl hq,.mcap hL hT (by omega) hroom⟩
  ·rename_i hroom
   simp only[Option.some.injEq,Prod.mk.injEq] at h
   obtain⟨rfl,rfl⟩:=h
   cases hz:dX P e with
   |none=>simp [hz] at hzl
   |some zz=>
   obtain⟨i',zv,hi',hzz,hrz⟩:=Di hz
   rw[hi] at hi';cases hi'
   have hzs:zv.cells.size=k:=by
    have:=(hrz (I:=M.I) (L:=M.L) (T:=M.T)).1
    simp only[hz,Option.map_some,Option.some.injEq] at hzl
    rw[<-hzl,this];simp
   have hlt:z<c+m:=by omega
   have hbig:=Nat.le_mul_of_pos_right (c+m) hb0
   obtain⟨b',hb',hcell⟩:=tZ inv hk
   rw[hL] at hb';cases hb'
   obtain⟨olds,q1,q2⟩:=(hcell.take (c*k)).list
   have hcz:c*k<=z*k:=Nat.mul_le_mul_right _ hcap
   have hlo:olds.length=c*k:=by rw[<-q1.1];simp;omega
   have hrun:=run_append_grow (P:=P) w t ty e i zv ht hi hzz ⟨b0,0,none⟩ c z olds (by rw[hlo,hsi]) q2 a m c' news (by rw[hln,hsi]) hnews hlt (by omega) (growslice_fits hlt (by rw[hbi];exact hbytes))
   obtain⟨m1,m2,m3⟩:=aAp (e:=e) (i:=i) (zv:=zv) (c:=z) inv hn q1 hlo hy hln (zs:=Builtin.zeroCells zv.cells (grownCap w (c+m) z e - (c+m))) (grownCap w (c+m) z e) (grownCap_ge w (c+m) z e) (by rw[oU,hzs])
   exact⟨_,_,_,hrun,m1,m2,m3⟩
theorem aDl {R:AV->Value->Prop} {zr:List AV} {zc:Array Value} {k:Nat} (l:Nat) (hzl:zr.length=k) (h0:0<k) (hr:bP R zr zc.toList):bP R (List.replicate l zr).flatten (Builtin.zeroCells zc l).toList:=by
 have h:=Eh (R:=R) (zr:= .agg zr) (zc:=zc) (n:=k) l hzl h0 hr
 have e1:(List.replicate l (AV.agg zr)).flatMap AV.cells=(List.replicate l zr).flatten:=by simp [List.flatMap,List.map_replicate,AV.cells]
 have e2:zc.size=k:=by rw[<-hzl,hr.1];simp
 rw[e1] at h
 unfold Builtin.zeroCells
 rw[e2] at h ⊢
 exact h
theorem aRo (inv:Inv G M al hp W w) {nx:Nat} (hn: ¬al nx) {t tn ty:TypeId} {s x av:AV} {vs vx:Value} {u:List (Nat×Option aI)} (hs:M.rel s vs) (hx:M.rel x vx)
  (h:Ag P hp nx t tn s x=some (av,u)): ∃v w' M',(Builtin.append_ #[t,tn] ty #[vs,vx]).run P w= .ok v w'/\M.le M'/\Inv G M' (lD al nx) (lQ hp u) W w'/\M'.rel av v:=by
 unfold Ag at h
 split at h
 case h_2=>cases h
 rename_i e key off c z k kx l he
 have ht:=qW he
 split at h
 case h_2=>cases h
 rename_i n by_ cs zr kn hsz hby hk hz htn
 obtain⟨i,hi,hsi⟩:=Az hsz
 have hbi:i.bytes=by_:=by simpa [dZ,hi] using hby
 split at h
 case isFalse=>cases h
 rename_i hc
 obtain⟨rfl,rfl,h0,hb0,hzl,hbytes,hzc,h0l,hlt,h63⟩:=hc
 simp only[Option.some.injEq,Prod.mk.injEq] at h
 obtain⟨rfl,rfl⟩:=h
 cases hx
 cases hs with
 | @mcap _ _ _ _ _ _ _ b z' hL hT hzb hcap=>
 obtain⟨i',zv,hi',hzz,hrz⟩:=Di hz
 rw[hi] at hi';cases hi'
 have hrz':=hrz (I:=M.I) (L:=M.L) (T:=M.T)
 have hzs:zv.cells.size=k:=by
  have:=hrz'.1
  rw[<-hzl,this];simp
 obtain⟨b',hb',hcell⟩:=tZ inv hk
 rw[hL] at hb';cases hb'
 obtain⟨olds,q1,q2⟩:=(hcell.take (c*k)).list
 have hlo:olds.length=c*k:=by rw[<-q1.1];simp;omega
 have hl:((l.toNat:Nat):Int)=l:=by omega
 have hbig:=Nat.le_mul_of_pos_right (c+l.toNat) hb0
 have hlb:l.toNat*by_<=(c+l.toNat)*by_:=Nat.mul_le_mul_right _ (by omega)
 have hfc:(Builtin.firstCells i.size c (.slice (some ⟨b,0,none⟩) c z)).run P w.drew= .ok olds.toArray w.drew:=by
  exact run_firstCells_some (P:=P) w.drew i.size c ⟨b,0,none⟩ c z olds (by rw[hlo,hsi]) (fun j v hj=>q2 j v hj)
 have hrun:=Lib.run_append_grow_zeros (P:=P) w t tn ty e i zv kx kn ht htn hi hzz (some ⟨b,0,none⟩) c z olds hfc l.toNat (by omega) (by rw[hsi];exact h0) hlt (by omega) (by rw[hbi];omega) (growslice_fits hlt (by rw[hbi];exact hbytes))
 rw[hl] at hrun
 have hy:bP M.rel (List.replicate l.toNat zr).flatten (Builtin.zeroCells zv.cells l.toNat).toList:=by
  exact aDl l.toNat hzl h0 hrz'
 obtain⟨m1,m2,m3⟩:=aAp (e:=e) (i:=i) (zv:=zv) (c:=z) inv hn q1 hlo hy (by simp [oU,hzs]) (zs:=Builtin.zeroCells zv.cells (grownCap w (c+l.toNat) z e - (c+l.toNat))) (grownCap w (c+l.toNat) z e) (grownCap_ge w (c+l.toNat) z e) (by rw[oU,hzs])
 simp only[Array.toArray_toList] at m2
 exact⟨_,_,_,hrun,m1,m2,m3⟩
theorem aO1 (inv:Inv G M al hp W w) {t ty:TypeId} {x av:AV} {vx:Value} {u:List (Nat×Option aI)} (hx:M.rel x vx)
  (h:mX P hp t x=some (av,u)): ∃v w',(Builtin.clear_ #[t] ty #[vx]).run P w= .ok v w'/\Inv G M al (lQ hp u) W w'/\M.rel av v:=by
 unfold mX at h
 split at h
 ·rename_i e key off m c0 k he
  split at h
  case h_2=>cases h
  rename_i n cs zr hsz hk hz
  split at h
  case isFalse=>cases h
  rename_i hc
  obtain⟨rfl,hzl,hzo,hle⟩:=hc
  simp only[Option.some.injEq,Prod.mk.injEq] at h
  obtain⟨rfl,rfl⟩:=h
  cases hx with
  | @mcap _ _ _ _ _ _ _ b z' hL hT hzb hcap=>
  split
  ·rename_i hm
   subst hm
   exact⟨.tuple #[],w,by simp [Builtin.clear_,dF (qW he)],inv,.tup rfl (fun i hi=>by simp at hi)⟩
  ·rename_i hm
   obtain⟨i',zv,hi',hzz,hrz⟩:=Di hz
   have hrz':=hrz (I:=M.I) (L:=M.L) (T:=M.T)
   have hy:bP M.rel (List.replicate m zr).flatten (Builtin.zeroCells zv.cells m).toList:=by
    by_cases h0:0<zr.length
    ·exact aDl m rfl h0 hrz'
    ·have e1:zr=[]:=List.eq_nil_of_length_eq_zero (by omega)
     have e2:zv.cells.size=0:=by have:=hrz'.1;rw[e1] at this;simpa using this.symm
     subst e1
     have e3:(List.replicate m ([]:List AV)).flatten=[]:=by simp
     rw[e3]
     refine⟨by simp [oU,e2],fun i a v h=>by simp at h⟩
   obtain⟨w',h1,h2⟩:=Kw (P:=P) inv (off:=off) hL hk (by simpa [hzl] using hle) (by
    simp only[List.all_eq_true,List.mem_flatten,List.mem_replicate] at hzo ⊢
    rintro a ⟨l,⟨_,rfl⟩,ha⟩;exact hzo a ha) hy
   refine⟨.tuple #[],w',?_,h2,.tup rfl (fun i hi=>by simp at hi)⟩
   have hzv:(zeroValue e).run P w= .ok zv w:=by simp [zeroValue,typeInfo,hi',hzz]
   obtain⟨m,rfl⟩: ∃q,m=q+1:=⟨m - 1,by omega⟩
   simp [Builtin.clear_,dF (qW he),hzv,h1]
 ·rename_i e k tk he
  simp only[Option.some.injEq,Prod.mk.injEq] at h
  obtain⟨rfl,rfl⟩:=h
  cases hx with
  | @sl _ _ _ c A _ _ b o vs hc hA hI hk hP hR ht=>
   exact⟨.tuple #[],w,by cases A<;>simp [Builtin.clear_,dF (qW he)],inv,.tup rfl (fun i hi=>by simp at hi)⟩
 ·cases h
end Go.Proofs.Pv
namespace Go.Proofs.Pv
open Go
variable {P:Program} {G:Nat->Option (List AV)} {M:Mem} {al:Nat->Prop} {hp:Hp} {W w:World}
def Fb (P:Program) (G:Nat->Option (List AV)) (M:Mem) (al:Nat->Prop) (hp:Hp) (W:World) (nx:Nat) (w:World) (r:Result Next):kM->Prop
 | .val v u=> ∃v' w' M',r= .ok (.value v') w'/\M.le M'/\Inv G M' (lD al nx) (lQ hp u) W w'/\M'.rel v v'
 | .skip u=> ∃w' M',r= .ok .skip w'/\M.le M'/\Inv G M' (lD al nx) (lQ hp u) W w'
 | .call f args=> ∃vs,bP M.rel args vs.toList/\r=(callFunc f vs).run P w
 | .yield key args=> ∃l vs,M.L key=some l/\bP M.rel args vs.toList/\r=(Instr.yield l vs).run P w
 | .branch l=> ∃v u,(v,u)∈l/\ ∃v' w' M',r= .ok (.value v') w'/\M.le M'/\Inv G M' (lD al nx) (lQ hp u) W w'/\M'.rel v v'
theorem Ox {f:FuncId} {fn:Func} {vs:Array Value} (h1:P.funcs[f]?=some fn) (h2:fn.body.isSome=true) (h3:fn.name≠ "runtime.NumGoroutine"):(callFunc f vs).run P w= .ok (.enter f vs) w:=by
 simp [callFunc,h1,h3]
 intro hb;rw[hb] at h2;cases h2
theorem aIm (inv:Inv G M al hp W w) {s:List AV} {a:Act} (rs:oL M s a.tmps) (ts:Array TypeId): ∀(xs:List Operand) (i:Nat),bP M.rel (evs P G s ts i xs) (xs.map a.eval)
 |[],i=>⟨rfl,fun i a v h=>by simp [evs] at h⟩
 | x::xs,i=>by
  have ih:=aIm inv rs ts xs (i+1)
  refine⟨by simp [evs,ih.1],fun j b v h1 h2=>?_⟩
  cases j with
  |zero=>
   simp [evs] at h1 h2
   subst h1;subst h2
   exact fA inv rs _ x
  |succ j=>exact ih.2 j b v (by simpa [evs] using h1) (by simpa using h2)
theorem aBm {lt:Int->Int->Bool} {f:Value->Value->Sem Value} (hf: ∀k k' (x y:Int),(f (.int k x) (.int k' y))=pure (.int k (if lt x y then y else x))): ∀(xs:List AV) (vs:List Value) (x av:AV) (vx:Value),
  M.rel x vx->bP M.rel xs vs->Ii lt x xs=some av-> ∃v,(vs.foldlM f vx).run P w= .ok v w/\M.rel av v
 |[],[],x,av,vx,hx,_,h=>by simp [Ii] at h;subst h;exact⟨vx,by simp,hx⟩
 | y::xs,v::vs,x,av,vx,hx,hl,h=>by
  cases x<;>cases y<;>simp only[Ii] at h<;>try (cases h;done)
  rename_i k a k' b
  split at h
  ·rename_i hk;subst hk
   have hv:=hl.2 0 _ _ rfl rfl
   cases hx;cases hv
   obtain⟨v',h1,h2⟩:=aBm hf xs vs _ av _ (.int (k:=k) (n:=if lt a b then b else a)) ⟨by simpa using hl.1,fun i p q g1 g2=>hl.2 (i+1) p q (by simpa using g1) (by simpa using g2)⟩ h
   exact⟨v',by simp [hf,h1],h2⟩
  ·cases h
 |[],_::_,_,_,_,_,hl,_=>by simp [bP] at hl
 |_::_,[],_,_,_,_,hl,_=>by simp [bP] at hl
theorem aTd (inv:Inv G M al hp W w) {t:TypeId} {x av:AV} {vx:Value} (hx:M.rel x vx) (h:Qq P hp t x=some av) (ts:Array TypeId) (h0:ts.getD 0 0=t) (hs:0<ts.size) (ty:TypeId):
  ∃v,(Builtin.len_ ts ty #[vx]).run P w= .ok v w/\M.rel av v:=by
 have ht:ts[0]?=some t:=by
  rw[Array.getElem?_eq_getElem hs];simp [Array.getD,hs] at h0;rw[h0]
 unfold Qq at h
 split at h
 ·rename_i hu;cases hx;simp only[Option.some.injEq] at h;subst h
  exact⟨_,by simp [Builtin.len_,ht,dF hu,goInt];done,.int⟩
 ·rename_i hu;simp only[Option.some.injEq] at h;subst h
  obtain⟨A,c,cs,rfl,_⟩:=aQ.sl_cells inv hx
  exact⟨_,by simp [Builtin.len_,ht,dF hu,goInt];done,.int⟩
 ·rename_i hu;cases hx;simp only[Option.some.injEq] at h;subst h
  exact⟨_,by simp [Builtin.len_,ht,dF hu,goInt];done,.int⟩
 ·rename_i hu;cases hx;simp only[Option.some.injEq] at h;subst h
  exact⟨_,by simp [Builtin.len_,ht,dF hu,goInt];done,.int⟩
 ·rename_i hu;cases hx;simp only[Option.some.injEq] at h;subst h
  exact⟨_,by simp [Builtin.len_,ht,dF hu,goInt];done,.int⟩
 ·rename_i key hu
  split at h
  ·rename_i es cl hk
   simp only[Option.some.injEq] at h;subst h
   cases hx with
   | @map _ _ _ b hL=>
    obtain⟨b',ob,g1,g2,g3,_⟩:=inv.live _ _ hk
    have:b'=b:=by simpa [Mem.blockOf,aI.isTok,hL] using g1.symm
    subst this
    cases ob<;>simp only[dC] at g3
    obtain⟨_,g4,_⟩:=g3
    exact⟨_,by simp [Builtin.len_,ht,dF hu,goInt,getObj,Sem.run,g2,g4];done,.int⟩
  ·cases h
 ·rename_i n e hu;simp only[Option.some.injEq] at h;subst h
  exact⟨_,by simp [Builtin.len_,ht,dF hu,goInt];done,.int⟩
 ·cases h
theorem arr1 {α:Type} {vs:Array α} (h:vs.size=1): ∃v,vs= #[v]:=by
 obtain⟨l⟩:=vs
 match l,h with
 |[v],_=>exact⟨v,rfl⟩
theorem aBn {α:Type} {vs:Array α} (h:vs.size=2): ∃v u,vs= #[v,u]:=by
 obtain⟨l⟩:=vs
 match l,h with
 |[v,u],_=>exact⟨v,u,rfl⟩
theorem aJ8 (inv:Inv G M al hp W w) {nx:Nat} (hn: ¬al nx) {b:Builtin} {ts:Array TypeId} {ty:TypeId} {cst:Array Bool} {args:List AV} {vs:Array Value} {av:AV} {u:List (Nat×Option aI)}
  (hl:ts.size=vs.size) (hr:bP M.rel args vs.toList) (h:nD P hp nx b ts args=some (av,u)):
  ∃v w' M',(builtin b ts ty cst vs).run P w= .ok (.value v) w'/\M.le M'/\Inv G M' (lD al nx) (lQ hp u) W w'/\M'.rel av v:=by
 unfold nD at h
 split at h
 ·rename_i x
  cases hq:Qq P hp (ts.getD 0 0) x with
  |none=>rw[hq] at h;cases h
  |some r=>
   simp only[hq,Option.map_some,Option.some.injEq,Prod.mk.injEq] at h
   obtain⟨rfl,rfl⟩:=h
   have hvs:vs.size=1:=by simpa using hr.1.symm
   obtain⟨v,hv⟩:=arr1 hvs
   subst hv
   obtain⟨v',h1,h2⟩:=aTd (P:=P) (w:=w) inv (hr.2 0 x v rfl rfl) hq ts rfl (by omega) ty
   exact⟨v',w,M,by simp [builtin,h1],M.le_refl,inv.more fun k hk=> .inl hk,h2⟩
 ·rename_i s x
  split at h
  ·rename_i ht
   have hvs:vs.size=2:=by simpa using hr.1.symm
   obtain⟨v,v2,hv⟩:=aBn hvs
   subst hv
   obtain⟨t0,t1,hts⟩:=aBn (show ts.size=2 by simpa using hl)
   subst hts
   simp at ht h
   subst ht
   split at h
   ·rename_i hq
    simp only[Option.some.injEq] at h;subst h
    obtain⟨v',w',M',h1,h2,h3,h4⟩:=aLh (ty:=ty) inv hn (hr.2 0 s v rfl rfl) (hr.2 1 x v2 rfl rfl) hq
    exact⟨v',w',M',by simp [builtin,h1],h2,h3,h4⟩
   ·split at h
    ·rename_i hq
     simp only[Option.some.injEq] at h;subst h
     obtain⟨v',w',M',h1,h2,h3,h4⟩:=aRm (ty:=ty) inv hn (hr.2 0 s v rfl rfl) (hr.2 1 x v2 rfl rfl) hq
     exact⟨v',w',M',by simp [builtin,h1],h2,h3,h4⟩
    ·obtain⟨v',w',M',h1,h2,h3,h4⟩:=aRn (ty:=ty) inv hn (hr.2 0 s v rfl rfl) (hr.2 1 x v2 rfl rfl) h
     exact⟨v',w',M',by simp [builtin,h1],h2,h3,h4⟩
  ·have hvs:vs.size=2:=by simpa using hr.1.symm
   obtain⟨v,v2,hv⟩:=aBn hvs
   subst hv
   obtain⟨t0,t1,hts⟩:=aBn (show ts.size=2 by simpa using hl)
   subst hts
   obtain⟨v',w',M',h1,h2,h3,h4⟩:=aRo (t:=t0) (tn:=t1) (ty:=ty) inv hn (hr.2 0 s v rfl rfl) (hr.2 1 x v2 rfl rfl) h
   exact⟨v',w',M',by simp [builtin,h1],h2,h3,h4⟩
 ·rename_i x rest
  cases hq:Ii (fun a b=>decide (a<b)) x rest with
  |none=>rw[hq] at h;cases h
  | some r=>
   simp only[hq,Option.map_some,Option.some.injEq,Prod.mk.injEq] at h
   obtain⟨rfl,rfl⟩:=h
   obtain⟨v0,vr,hv⟩: ∃v0 vr,vs.toList=v0::vr:=by
    cases hvl:vs.toList with
    |nil=>rw[hvl] at hr;simp [bP] at hr
    |cons a b=>exact⟨a,b,rfl⟩
   rw[hv] at hr
   obtain⟨v',h1,h2⟩:=aBm (P:=P) (w:=w) (f:=Builtin.max2) (lt:=fun a b=>decide (a<b)) (fun k k' x y=>by simp [Builtin.max2]) rest vr x _ v0 (hr.2 0 x v0 rfl rfl) ⟨by simpa using hr.1,fun i p q g1 g2=>hr.2 (i+1) p q (by simpa using g1) (by simpa using g2)⟩ hq
   exact⟨v',w,M,by simp [builtin,Builtin.max_,hv,h1],M.le_refl,inv.more fun k hk=> .inl hk,h2⟩
 ·rename_i x rest
  cases hq:Ii (fun a b=>decide (b<a)) x rest with
  |none=>rw[hq] at h;cases h
  | some r=>
   simp only[hq,Option.map_some,Option.some.injEq,Prod.mk.injEq] at h
   obtain⟨rfl,rfl⟩:=h
   obtain⟨v0,vr,hv⟩: ∃v0 vr,vs.toList=v0::vr:=by
    cases hvl:vs.toList with
    |nil=>rw[hvl] at hr;simp [bP] at hr
    |cons a b=>exact⟨a,b,rfl⟩
   rw[hv] at hr
   obtain⟨v',h1,h2⟩:=aBm (P:=P) (w:=w) (f:=Builtin.min2) (lt:=fun a b=>decide (b<a)) (fun k k' x y=>by simp [Builtin.min2]) rest vr x _ v0 (hr.2 0 x v0 rfl rfl) ⟨by simpa using hr.1,fun i p q g1 g2=>hr.2 (i+1) p q (by simpa using g1) (by simpa using g2)⟩ hq
   exact⟨v',w,M,by simp [builtin,Builtin.min_,hv,h1],M.le_refl,inv.more fun k hk=> .inl hk,h2⟩
 ·rename_i d x
  have hvs:vs.size=2:=by simpa using hr.1.symm
  obtain⟨v,v2,hv⟩:=aBn hvs
  subst hv
  obtain⟨t0,t1,hts⟩:=aBn (show ts.size=2 by simpa using hl)
  subst hts
  obtain⟨v',w',h1,h2,h3⟩:=aRl (t:=t0) (t1:=t1) (ty:=ty) inv (hr.2 0 d v rfl rfl) (hr.2 1 x v2 rfl rfl) h
  exact⟨v',w',M,by simp [builtin,h1],M.le_refl,h2.more fun k hk=> .inl hk,h3⟩
 ·rename_i x
  have hvs:vs.size=1:=by simpa using hr.1.symm
  obtain⟨v,hv⟩:=arr1 hvs
  subst hv
  obtain⟨t0,hts⟩:=arr1 (show ts.size=1 by simpa using hl)
  subst hts
  obtain⟨v',w',h1,h2,h3⟩:=aO1 (t:=t0) (ty:=ty) inv (hr.2 0 x v rfl rfl) h
  exact⟨v',w',M,by simp [builtin,h1],M.le_refl,h2.more fun k hk=> .inl hk,h3⟩
 ·rename_i x
  have hvs:vs.size=1:=by simpa using hr.1.symm
  obtain⟨v,hv⟩:=arr1 hvs
  subst hv
  obtain⟨t0,hts⟩:=arr1 (show ts.size=1 by simpa using hl)
  subst hts
  split at h
  ·rename_i he
   cases he':nN P t0 with
   |none=>simp [he'] at he
   |some e=>
   have hx:=hr.2 0 x v rfl rfl
   unfold sQ at h
   split at h
   ·simp only[Option.map_some,Option.some.injEq,Prod.mk.injEq] at h
    obtain⟨rfl,rfl⟩:=h
    cases hx with
    |mcap hL hT hz hc=>
     exact⟨.int .i64 _,w,M,by simp [builtin,Builtin.cap_,dF (qW he'),goInt],M.le_refl,inv.more fun k hk=> .inl hk,.int⟩
   ·cases h
  ·cases h
 ·cases h
theorem relO {s:List AV} {a:Act} (inv:Inv G M al hp W w) (rs:oL M s a.tmps) (x:Option Operand):Oh M (evo P G s x) (x.map a.eval):=by
 cases x with
 |none=>exact trivial
 |some x=>exact fA inv rs 0 x
theorem aCr {s:List AV} {a:Act} (inv:Inv G M al hp W w) (rs:oL M s a.tmps) (f:Nat->TypeId) (ps:Array (Nat×Operand)):
  (ps.toList.map fun p=>(p.1,ev P G s (f p.1) p.2)).length=(ps.map fun(i,x)=>(i,a.eval x)).toList.length/\
  ∀(i:Nat) p q,(ps.toList.map fun p=>(p.1,ev P G s (f p.1) p.2))[i]?=some p->(ps.map fun(i,x)=>(i,a.eval x)).toList[i]?=some q->p.1=q.1/\M.rel p.2 q.2:=by
 refine⟨by simp,fun i p q h1 h2=>?_⟩
 rw[List.getElem?_map] at h1
 rw[Array.toList_map,List.getElem?_map] at h2
 cases hp:ps.toList[i]? with
 |none=>rw[hp] at h1;cases h1
 |some r=>
  rw[hp] at h1 h2
  simp only[Option.map_some,Option.some.injEq] at h1 h2
  subst h1;subst h2
  exact⟨rfl,fA inv rs _ _⟩
theorem lF (inv:Inv G M al hp W w) {nx:Nat} {r:Result Next} {av:AV} {v:Value} (hr:r= .ok (.value v) w) (h:M.rel av v):Fb P G M al hp W nx w r (.val av []):=
 ⟨v,w,M,hr,M.le_refl,inv.more fun _ hk=> .inl hk,h⟩
theorem rY (inv:Inv G M al hp W w) {nx:Nat} {x:Sem Value} {oav:Option AV} {res:kM} (h:(oav.map fun v=>kM.val v [])=some res) (hx: ∀av,oav=some av-> ∃v,x.run P w= .ok v w/\M.rel av v):
  Fb P G M al hp W nx w ((do pure (.value (<-x)):Sem Next).run P w) res:=by
 cases ho:oav with
 |none=>rw[ho] at h;cases h
 |some av=>
  rw[ho] at h
  simp only[Option.map_some,Option.some.injEq] at h
  subst h
  obtain⟨v,h1,h2⟩:=hx av ho
  exact lF inv (v:=v) (by simp [h1]) h2
theorem aTe (inv:Inv G M al hp W w) {nx:Nat} (hn: ¬al nx) {s:List AV} {a:Act} (rs:oL M s a.tmps) {o:Oper} {res:kM} (h:Ah P G s hp nx o=some res):
    Fb P G M al hp W nx w ((execOp a.eval o).run P w) res:=by
  obtain⟨dst,op,ty,pos,after,guard⟩:=o
  unfold Ah at h
  cases op<;>simp only[aEm,aAx,oBox,aAy,wJ,oNil,aEn,aEo,Qr,Qs] at h<;>try (cases h;done)
  case move x=>simp only[Option.some.injEq] at h;subst h;exact lF inv (v:=a.eval x) (by simp [execOp]) (fA inv rs _ _)
  case assign x=>simp only[Option.some.injEq] at h;subst h;exact lF inv (v:=a.eval x) (by simp [execOp]) (fA inv rs _ _)
  case pick c x y=>
    split at h
    · rename_i q hq
      simp only[Option.some.injEq] at h;subst h
      have hc:=fA (P:=P) inv rs ty c
      rw[hq] at hc
      have hcv:a.eval c= .bool q:=by
        have: ∀v,M.rel (.bool q) v->v= .bool q:=fun v hv=>by cases hv;rfl
        exact this _ hc
      have hx:=fA (P:=P) inv rs ty x
      have hy:=fA (P:=P) inv rs ty y
      refine lF inv (v:=if q then a.eval x else a.eval y) (by simp [execOp,hcv,asBool]) ?_
      unfold AV.ite
      split
      · rename_i b1 b2 e1 e2
        rw[e1] at hx;rw[e2] at hy
        have: ∀v b,M.rel (.bool b) v->v= .bool b:=fun v b hv=>by cases hv;rfl
        rw[this _ _ hx,this _ _ hy]
        cases q<;>exact .bool
      · cases q
        · exact hy
        · exact hx
    · cases h
  case alloc e=>
    split at h
    · rename_i z hz
      simp only[Option.some.injEq] at h;subst h
      obtain⟨v,w',M',h1,h2,h3,h4⟩:=aRa inv hn hz
      exact⟨v,w',M',by simp [execOp,h1],h2,h3,h4⟩
    · cases h
  case box e x=>
    split at h
    · cases h
    · rename_i hu
      simp only[Option.some.injEq] at h;subst h
      obtain⟨v,w',M',h1,h2,h3,h4⟩:=aV2 (P:=P) (t:=e) inv hn (fA inv rs e x) (by simpa using hu)
      exact⟨v,w',M',by simp [execOp,h1],h2,h3,h4⟩
  case build t ps=>
    split at h
    · rename_i z pl hz hpl
      refine rY inv h fun av hav=>?_
      cases hf:wO (fun i=>pl[i]?) z (ps.toList.map fun p=>(p.1,ev P G s (dQ P t p.1) p.2)) with
      |none=>rw[hf] at hav;cases hav
      | some cs=>
        rw[hf] at hav
        simp only[Option.map_some,Option.some.injEq] at hav
        subst hav
        obtain⟨g1,g2⟩:=aCr (P:=P) inv rs (dQ P t) ps
        exact aRb hz hpl g1 g2 hf
    · cases h
  case buildSlice t len ps=>
    obtain⟨g1,g2⟩:=aCr (P:=P) inv rs (fun _=>dQ P t 0) ps
    obtain⟨av,u,v,w',M',rfl,h1,h2,h3,h4⟩:=aD7 inv hn g1 g2 h
    exact⟨v,w',M',by simp [execOp,h1],h2,h3,h4⟩
  case load t x=>exact rY inv h fun av hav=>aCd inv (fA inv rs _ _) hav
  case store t x y=>
    cases hu:Af P hp t (ev P G s 0 x) (ev P G s t y) with
    |none=>rw[hu] at h;cases h
    | some u=>
      rw[hu] at h
      simp only[Option.map_some,Option.some.injEq] at h
      subst h
      obtain⟨w',h1,h2⟩:=aJs inv (fA inv rs _ _) (fA inv rs _ _) hu
      exact⟨w',M,by simp [execOp,h1],M.le_refl,h2.more fun _ hk=> .inl hk⟩
  case nilCheck x=>
    have hx:=fA (P:=P) inv rs ty x
    split at h
    all_goals first
      |(cases h;done)
      | (rename_i e
         simp only[Option.some.injEq] at h;subst h
         rw[e] at hx
         refine lF inv (v:=a.eval x) ?_ (by rw[e];exact hx)
         generalize hv:a.eval x=v at hx
         cases hx<;>simp [execOp,hv])
  case binOp op t x y t'=>exact rY inv h fun av hav=>aQ7 (fA inv rs _ _) (fA inv rs _ _) hav
  case unOp op t x=>exact rY inv h fun av hav=>aT4 (fA inv rs _ _) hav
  case convert t u x=>
    have hx:=fA (P:=P) inv rs t x
    split at h
    · rename_i d k q n h1 h2 h3
      simp only[Option.some.injEq] at h;subst h
      rw[h3] at hx
      generalize hv:a.eval x=v at hx
      cases hx
      refine lF inv (v:= .int k (k.wrap n)) ?_ .int
      simp only[execOp,hv,convert,Sem.run_bind,dF h1,dF h2,Result.andThen_ok,Conv.intToInt,Sem.run_pure]
    · rename_i d q h1 h2 h3
      simp only[Option.some.injEq] at h;subst h
      rw[h3] at hx
      generalize hv:a.eval x=v at hx
      cases hx
      refine lF inv (v:= .string q) ?_ .str
      simp only[execOp,hv,convert,Sem.run_bind,dF h1,dF h2,Result.andThen_ok,Sem.run_pure]
    · cases h
  case makeFunc fn first cap=>
    cases fn<;>simp only at h<;>try (cases h;done)
    rename_i f
    simp only[Option.some.injEq] at h;subst h
    refine lF inv (v:= .func (.func f) (first.map a.eval) (cap.map a.eval)) (by simp [execOp,Instr.makeFunc]) ?_
    exact .fn (by simp) (by simp) (fun i h1 h2=>by have h:=fA (P:=P) inv rs 0 (first[i]'(by simpa using h1));simp only[Mem.rel] at h;simpa using h) (fun i h1 h2=>by have h:=fA (P:=P) inv rs 0 (cap[i]'(by simpa using h1));simp only[Mem.rel] at h;simpa using h)
  case slice t x lo hi mx=>exact rY inv h fun av hav=>aJr (fA inv rs _ _) (relO inv rs _) (relO inv rs _) (relO inv rs _) hav
  case fieldAddr t x f=>exact rY inv h fun av hav=>aJl (fA inv rs _ _) hav
  case field t x f=>
    refine rY inv h fun av hav=>?_
    unfold aGm at hav
    have hx:=fA (P:=P) inv rs t x
    split at hav
    · rename_i off n ft cs hf hcs
      obtain⟨fs,fl,h1,h2,rfl,rfl,h4⟩:=aA8 hf
      rw[hcs] at hx
      generalize a.eval x=v at hx
      cases hx with
      | agg hs hr=>
        obtain⟨v',g1,g2⟩:=Ky (P:=P) (w:=w) hs hr hav
        exact⟨v',by simp [Instr.field,dF h1,h2,asAgg,g1],g2⟩
    · cases hav
  case indexAddr t x i=>exact rY inv h fun av hav=>aK6 (fA inv rs _ _) (fA inv rs _ _) hav
  case index t x i=>exact rY inv h fun av hav=>aQ5 (fA inv rs _ _) (fA inv rs _ _) hav
  case extract x i=>
    have hx:=fA (P:=P) inv rs 0 x
    split at h
    · rename_i vs hvs
      refine rY inv h fun av hav=>?_
      rw[hvs] at hx
      generalize a.eval x=v at hx
      cases hx with
      | @tup _ _ _ cs hs hr=>
        obtain⟨hi,rfl⟩:=List.getElem?_eq_some_iff.1 hav
        have hi':i<cs.size:=by omega
        exact⟨cs[i],by simp [Instr.extract,hi'],hr i hi hi'⟩
    · cases h
  case call c=>
    obtain⟨callee,args,argTypes⟩:=c
    have hargs:bP M.rel (evs P G s argTypes 0 args.toList) (args.map a.eval).toList:=by rw[Array.toList_map];exact aIm inv rs argTypes args.toList 0
    cases callee<;>simp only at h<;>try (cases h;done)
    case builtin b=>
      split at h
      case isFalse=>cases h
      rename_i hsz
      cases hb:nD P hp nx b argTypes (evs P G s argTypes 0 args.toList) with
      |none=>rw[hb] at h;cases h
      | some r=>
        obtain⟨av,u⟩:=r
        rw[hb] at h
        simp only[Option.map_some,Option.some.injEq] at h
        subst h
        obtain⟨v,w',M',h1,h2,h3,h4⟩:=aJ8 (ty:=ty) (cst:=args.map fun| .const _=>true|_=>false) inv hn (by simpa using hsz) hargs hb
        exact⟨v,w',M',by simp [execOp,resolve,invoke];exact h1,h2,h3,h4⟩
    case value f=>
      have hf:=fA (P:=P) inv rs 0 f
      unfold aLs at h
      split at h
      · rename_i g first cap hg
        simp only[Option.some.injEq] at h;subst h
        rw[hg] at hf
        generalize hv:a.eval f=v at hf
        cases hf with
        | @fn _ _ _ _ _ fs cs hfs hcs g1 g2=>
          refine⟨fs++(args.map a.eval)++cs,?_,?_⟩
          · simp only[Array.toList_append]
            exact((bP.of_get (by simpa using hfs) (fun i e1 e2=>by have:=g1 i e1 (by simpa using e2);rwa [<-Array.getElem_toList] at this)).append hargs).append (bP.of_get (by simpa using hcs) (fun i e1 e2=>by have:=g2 i e1 (by simpa using e2);rwa [<-Array.getElem_toList] at this))
          · simp [execOp,resolve,hv,Deferred.ofValue,invoke]
      · rename_i key hg
        simp only[Option.some.injEq] at h;subst h
        rw[hg] at hf
        generalize hv:a.eval f=v at hf
        cases hf with
        | @yld _ _ _ l hL=>
          refine⟨l,args.map a.eval,hL,hargs,?_⟩
          simp [execOp,resolve,hv,Deferred.ofValue,invoke]
      · cases h
end Go.Proofs.Pv
