/-
Layer 9's edits: the cell of a place, and copies of a part of the events: calls that only look.
Conditions: none but those that each statement names.
-/
import Derived.Test.YtlcnbhiklpfpjaaGreatDoorC09i
import Derived.Test.YtlcnbhiklpfpjaaGreatDoorPvBF
set_option linter.unusedVariables false
set_option linter.unusedSimpArgs false
set_option maxRecDepth 100000
set_option maxHeartbeats 16000000
namespace Go.Proofs.Pv
open Go Go.Proofs
theorem zT {c c':Nat->List AV} {n:Nat} (h: ∀i,i<n->c i=c' i):aZ c n=aZ c' n:=by
 have:=Bz (f:=id) (c:=c) (c':=c') n fun j hj=>by rw[List.map_id];exact h j hj
 rwa [List.map_id] at this
theorem Zb {c:Nat->List AV} {k:Nat} (hk: ∀j,(c j).length=k) {j:Nat}: ∀ {n:Nat},j<n-> ∃Z,List.drop (j*k) (aZ c n)=c j++Z
 |0,h=>by omega
 | n+1,h=>by
  rw[fE]
  rcases Nat.lt_or_ge j n with hj|hj
  ·obtain⟨Z,hZ⟩:=Zb hk hj
   refine⟨Z++c n,?_⟩
   have hl:j*k<=(aZ c n).length:=by rw[iG hk];exact Nat.mul_le_mul_right k (by omega)
   rw[List.drop_append_of_le_length hl,hZ,List.append_assoc]
  ·have:j=n:=by omega
   subst this
   refine⟨[],?_⟩
   rw[List.drop_left' (by rw[iG hk]),List.append_nil]
theorem qA {c:Nat->List AV} {k:Nat} (hk: ∀j,(c j).length=k) {j n:Nat} (hj:j<n) {i:Nat} (hi:i<k):(List.drop (j*k+i) (aZ c n)).head?=(c j)[i]?:=by
 obtain⟨Z,hZ⟩:=Zb hk hj
 rw[<-List.drop_drop,hZ,List.head?_drop,List.getElem?_append_left (by rw[hk];exact hi)]
theorem Zc {c:Nat->List AV} {k:Nat} (hk: ∀j,(c j).length=k) {j:Nat} {v:List AV} (hv:v.length=k): ∀ {n:Nat},j<n->splice (aZ c n) (j*k) v=aZ (fun i=>if i=j then v else c i) n
 |0,h=>by omega
 | n+1,h=>by
  have hl:=iG hk n
  rw[fE,fE]
  unfold splice
  rcases Nat.lt_or_ge j n with hj|hj
  ·have ih:=Zc hk hv hj
   unfold splice at ih
   have h1:(j+1)*k<=n*k:=Nat.mul_le_mul_right k hj
   have h2:(j+1)*k=j*k+k:=Nat.succ_mul j k
   rw[List.take_append_of_le_length (by omega),List.drop_append_of_le_length (by omega),<-List.append_assoc,ih,if_neg (by omega)]
  ·have:j=n:=by omega
   subst this
   rw[List.take_left' hl,List.drop_eq_nil_of_le (by rw[List.length_append,hl,hk,hv];omega),List.append_nil,if_pos rfl]
   congr 1
   exact zT fun i hi=>by rw[if_neg (by omega)]
theorem aE2 {q:Nat} {b':aI} {h:List (Nat×aI)} (hq:hget h q=none): ∀k b,hget h k=some b->hget ((q,b')::h) k=some b:=by
 intro k b hk
 simp only[hget]
 split
 ·rename_i e;subst e;rw[hq] at hk;cases hk
 ·exact hk
def aR2 (R:List Nat) (h:DH):List (Nat×aI)->Prop
 |[]=>True
 |(k,b)::r=>(R.contains k=true/\bY h k=some b)/\aR2 R h r
theorem qF {R:List Nat} {h:DH}: ∀ {hl:List (Nat×aI)},aR2 R h hl-> ∀k b,hget hl k=some b->k∈R/\bY h k=some b
 |[],_,k,b,hk=>by simp [hget] at hk
 | (k',b')::r,hs,k,b,hk=>by
  simp only[hget] at hk
  split at hk
  ·rename_i e;subst e;cases hk
   exact⟨by simpa using hs.1.1,hs.1.2⟩
  ·exact qF hs.2 k b hk
theorem iF (n many:Int) (h:0<=n/\n<many):PC Tryz.prog gl 48 [.int .i64 n,.int .i64 many] (fun v=>v= .bool true):=by
 have:=aGy n many
 rwa [decide_eq_true h] at this
theorem tH (n many:Int) (h: ¬(0<=n/\n<many)):PC Tryz.prog gl 48 [.int .i64 n,.int .i64 many] (fun v=>v= .bool false):=by
 have:=aGy n many
 rwa [decide_eq_false h] at this
def chH (s:Sc) (kd:AV) (j0 b0:Nat) (vo at_:Int) (rest:List AV) (R:List AV):List (Nat×aI):=[(28,.cells ([.str s.title,.sl 14 (s.bars.map Ba.av) .none,.msl 20 0 s.parts.length 5,kd,.int .i64 (j0:Nat),.int .i64 (b0:Nat),.int .i64 vo,.int .i64 at_]++rest)),(20,.cells (aZ (lC 21 s.parts j0) s.parts.length)),(21,.cells R)]
def rC:List AV:=[.int .i64 0,.int .i64 0,.int .i64 0,.int .i64 0,.int .i64 0,.int .i64 0,.sl 9 [] .full,.sl 14 [] .full,.sl 1 [] .full,.sl 1 [] .full,.int .i64 0,.int .i64 0,.str ⟨#[]⟩]
theorem Gh (s:Sc) (kd:AV) (vo at_:Int) (j0:Nat) (rest R:List AV) (b0:Nat) (hj:j0<s.parts.length) (hb:b0<s.bars.length) (hc:b0< (s.parts.getD j0 pa0).cells.length):Rd Tryz.prog gl 47 [.ptr 28 0] (hget (chH s kd j0 b0 vo at_ rest R)) (.ptr 21 b0):=by
 refine Rd.introZ 2 200 mix names (fn:=Tryz.f47) Tryz.func47 rfl (fun f hf=>by rw[AV.ren,hf 21 _ rfl]) fun m F hF hro W=>?_
 simp only[Tryz.ntmps47,Tryz.results47,aJ,Nat.reduceAdd,Nat.reduceSub,chH]
 have hpl:(aZ (lC 21 s.parts j0) s.parts.length).length=s.parts.length*5:=by rw[iG (k:=5) (fun _=>rfl)]
 have hrow:(List.drop (j0*5+3) (aZ (lC 21 s.parts j0) s.parts.length)).head?=some (.msl 21 0 (s.parts.getD j0 pa0).cells.length 1):=by rw[qA (k:=5) (fun _=>rfl) hj (by omega)];simp [lC]
 repeat' (first
  |simp -implicitDefEqProofs only[↓reduceIte,aA,aC,facts,Nat.reduceAdd,Nat.reduceEqDiff,Nat.reduceLeDiff,bF,aU,aV,aW, *]
  |((with_reducible refine dG 48 ?_);refine bW (iF _ _ (by omega)) (rfl) ?_)
  |simp -implicitDefEqProofs (disch:=first|assumption|omega) only[aA,aC,facts,if_pos,if_neg,Nat.reduceAdd,Nat.reduceEqDiff,Nat.reduceLeDiff,List.length_drop,lL,bF,aU,aV,aW, *]
  |((with_reducible refine aO ?_);refine bM (by decide+kernel) ?_)
  |((with_reducible refine dP ?_ ?_);· kernel_rfl))
 exact aE2 (by simp only[hget];rw[if_neg (by omega),if_neg (by omega),if_neg (by omega)])
theorem Au {α:Type} {c:α->List AV} (h: ∀x,(c x).all AV.one=true): ∀l:List α,(l.flatMap c).all AV.one=true
 |[]=>rfl
 |x::l=>by simp only[List.flatMap_cons,List.all_append,h x,Au h l,Bool.and_self]
theorem Df {α:Type} {c:α->List AV} {k:Nat} (h: ∀x,(c x).length=k): ∀(l:List α) (n:Nat),List.take (n*k) (l.flatMap c)=(l.take n).flatMap c
 |[],n=>by simp
 |x::l,0=>by simp
 |x::l,n+1=>by
  have hx:=h x
  rw[List.flatMap_cons,List.take_succ_cons,List.flatMap_cons,<-Df h l n,Nat.succ_mul,Nat.add_comm,<-hx,List.take_length_add_append]
theorem Dh {α:Type} {c:α->List AV} {k:Nat} (h: ∀x,(c x).length=k): ∀(l:List α) (n:Nat),List.drop (n*k) (l.flatMap c)=(l.drop n).flatMap c
 |[],n=>by simp
 |x::l,0=>by simp
 |x::l,n+1=>by
  have hx:=h x
  rw[List.flatMap_cons,List.drop_succ_cons,<-Dh h l n,Nat.succ_mul,Nat.add_comm,<-hx,List.drop_length_add_append]
theorem aLe (l:List Ev) (a n:Nat) (hl:l.length<=1000000) (ha:a+n<=l.length) (hn:0<n):Rd Tryz.prog gl 50 [.msl 23 (0+a*9) n 9] (hget [(23,.cells (l.flatMap Ev.cells))]) (.sl 9 (((l.drop a).take n).map Ev.av) .none):=by
 have hfl:(l.flatMap Ev.cells).length=l.length*9:=flat_length (k:=9) (fun _=>rfl) l
 have hcut:List.take (n*9) (List.drop (a*9) (l.flatMap Ev.cells))=((l.drop a).take n).flatMap Ev.cells:=by rw[Dh (c:=Ev.cells) (k:=9) (fun _=>rfl),Df (c:=Ev.cells) (k:=9) (fun _=>rfl)]
 have hone:(((l.drop a).take n).flatMap Ev.cells).all AV.one=true:=Au (fun _=>rfl) _
 have hpure:(((l.drop a).take n).flatMap Ev.cells).all AV.pure=true:=kZ (fun _=>rfl) _
 have hlen:((l.drop a).take n).length=n:=by rw[List.length_take,List.length_drop];omega
 have hfl2:(((l.drop a).take n).flatMap Ev.cells).length=n*9:=by rw[flat_length (k:=9) (fun _=>rfl),hlen]
 have hch:chunks (!(Nat.beq 9 1)) 9 n (((l.drop a).take n).flatMap Ev.cells)=((l.drop a).take n).map Ev.av:=by
  have:=lI (c:=Ev.cells) (k:=9) (fun _=>rfl) ((l.drop a).take n)
  rw[hlen] at this;exact this
 refine Rd.introF 2 200 mix names (fn:=Tryz.f50) Tryz.func50 rfl (fun f hf=>rfl) fun m F hF hro W=>?_
 simp only[Tryz.ntmps50,Tryz.results50,aJ,Nat.reduceAdd,Nat.reduceSub]
 repeat' (first
  |simp -implicitDefEqProofs only[↓reduceIte,aA,aC,facts,Nat.reduceAdd,Nat.reduceLT,Nat.reduceMul,kS,kT,aAn,mD,Option.map_none,gI,cO,List.flatMap_nil,or_true, *]
  |simp -implicitDefEqProofs (disch:=first|assumption|omega) only[aA,aC,if_pos,Nat.reduceEqDiff,Nat.reduceLT,lL,He,Rk, *])
 exact fun k b h=>h
theorem Ku (hl:List (Nat×aI)):Rd Tryz.prog gl 50 [.sl 9 [] .none] (hget hl) (.sl 9 [] .none):=by
 refine Rd.introF 2 200 mix names (fn:=Tryz.f50) Tryz.func50 rfl (fun f hf=>rfl) fun m F hF hro W=>?_
 simp only[Tryz.ntmps50,Tryz.results50,aJ,Nat.reduceAdd,Nat.reduceSub]
 repeat' (first
  |simp -implicitDefEqProofs only[↓reduceIte,aA,aC,facts,kS,kT,Ac,vF,oD,mD,Option.map_none, *]
  |with_reducible refine kV ?_)
 refine xR ?_ ?_
 all_goals repeat' (simp -implicitDefEqProofs only[↓reduceIte,aA,aC,facts,Nat.reduceAdd,Nat.reduceMul,lL,He,Rk, *])
 all_goals exact fun k b h=>h
theorem Tv (l:List Ev) (hl:l.length<=1000000) (a n:Nat) (ha:a+n<=l.length):Rd Tryz.prog gl 50 [.msl 23 (a*9) n 9] (hget [(23,.cells (l.flatMap Ev.cells))]) (.sl 9 (((l.drop a).take n).map Ev.av) .none):=by
 rcases Nat.eq_zero_or_pos n with hn|hn
 ·subst hn
  exact(Ku _).nilMsl
 ·have:=aLe l a n hl ha hn
  rwa [Nat.zero_add] at this
theorem Tz (a b c:Int) (h:0<=a/\0<=b/\a+b<=c) (hc:c<=1000000):PC Tryz.prog gl 49 [.int .i64 a,.int .i64 b,.int .i64 c] (fun v=>v= .bool true):=by
 have:=aJk a b c (by omega) (by omega)
 rwa [decide_eq_true (show 0<=a/\0<=b/\a<=c/\b<=c - a by omega)] at this
def fZ (l:List Ev) (a n:Nat) (es:List Ev):List Ev:=l.take a++es++l.drop (a+n)
theorem aCy (l es:List Ev) (a n:Nat) (han:a+n<=l.length) (hs:l.length+es.length+1<=1000000):dE Tryz.prog gl 51 [.msl 0 0 l.length 9,.int .i64 (a:Nat),.int .i64 ((a+n:Nat):Int),iR 1 9 es.length] (hC ((0,l.flatMap Ev.cells)::jI 1 (es.flatMap Ev.cells) es.length)) 2 (.msl 0 0 (fZ l a n es).length 9) [(0,(fZ l a n es).flatMap Ev.cells)] 1:=by
 have hfl: ∀l:List Ev,(l.flatMap Ev.cells).length=l.length*9:=flat_length (k:=9) fun _=>rfl
 have hon: ∀l:List Ev,(l.flatMap Ev.cells).all AV.one=true:=Au fun _=>rfl
 have:=aBq ((l.take a).flatMap Ev.cells) (((l.drop a).take n).flatMap Ev.cells) ((l.drop (a+n)).flatMap Ev.cells) (es.flatMap Ev.cells) a n (l.length - (a+n)) es.length
  (by rw[hfl,List.length_take];congr 1;omega) (by rw[hfl,List.length_take,List.length_drop];congr 1;omega) (by rw[hfl,List.length_drop]) (by rw[hfl]) (hon _) (hon _) (hon _) (hon _) (fun f=>gB _) (fun f=>gB _) (fun f=>gB _) (by omega)
 have e1:a+n+(l.length - (a+n))=l.length:=by omega
 have e2:(fZ l a n es).length=a+es.length+(l.length - (a+n)):=by simp only[fZ,List.length_append,List.length_take,List.length_drop];omega
 have e3:(l.take a).flatMap Ev.cells++((l.drop a).take n).flatMap Ev.cells++(l.drop (a+n)).flatMap Ev.cells=l.flatMap Ev.cells:=by
  rw[<-List.flatMap_append,<-List.flatMap_append]
  congr 1
  rw[<-List.drop_drop,List.append_assoc,List.take_append_drop,List.take_append_drop]
 have e4:(l.take a).flatMap Ev.cells++es.flatMap Ev.cells++(l.drop (a+n)).flatMap Ev.cells=(fZ l a n es).flatMap Ev.cells:=by
  simp only[fZ,List.flatMap_append]
 rw[e1,e3,e4,<-e2] at this
 exact this
theorem aNv {F:Fence} (hF:Free F) (hro:F.round=none) {W:World} (l es:List Ev) (a n m:Nat) (hm:es.length=m+1) (han:a+n<=l.length) (hs:l.length+es.length+1<=1000000):
  aP F Tryz.prog gl W 51 [.msl 23 0 l.length 9,.int .i64 (a:Nat),.int .i64 ((a+n:Nat):Int),.msl 164 0 (m+1) 9] (fun u su=>u= .msl 183 0 (fZ l a n es).length 9/\su=⟨[(183,.cells ((fZ l a n es).flatMap Ev.cells))],184⟩) ⟨[(23,.cells (l.flatMap Ev.cells)),(164,.cells (es.flatMap Ev.cells))],183⟩:=by
 have hw:=aCy l es a n han hs
 rw[hm] at hw
 simp only[dY,bJ,aK,aN] at hw
 refine hw.call hF hro (fun k=>if k=23 then some 0 else if k=164 then some 1 else none) (fun k=>if k=0 then some 23 else if k=1 then some 164 else none) ?_ (fun k hk=>by show(if k=0 then some 23 else if k=1 then some 164 else none)=none;rw[if_neg (by omega),if_neg (by omega)]) (st:=⟨[(23,.cells (l.flatMap Ev.cells)),(164,.cells (es.flatMap Ev.cells))],183⟩) (aG.cons 23 rfl rfl (gB _) (aG.cons 164 rfl rfl (gB _) aG.nil)) rfl ⟨rfl,?_⟩
 ·intro k k' h
  split at h
  ·rename_i e;subst e;cases h;rfl
  ·split at h
   ·rename_i e;subst e;cases h;rfl
   ·cases h
 ·simp only[eX,fH,aK,aN,gB]
theorem aNw {F:Fence} (hF:Free F) (hro:F.round=none) {W:World} (l es:List Ev) (a n:Nat) (hm:es.length=0) (han:a+n<=l.length) (hs:l.length+es.length+1<=1000000):
  aP F Tryz.prog gl W 51 [.msl 23 0 l.length 9,.int .i64 (a:Nat),.int .i64 ((a+n:Nat):Int),iR 164 9 0] (fun u su=>u= .msl 183 0 (fZ l a n es).length 9/\su=⟨[(183,.cells ((fZ l a n es).flatMap Ev.cells))],184⟩) ⟨[(23,.cells (l.flatMap Ev.cells))],183⟩:=by
 have hw:=aCy l es a n han hs
 rw[hm] at hw
 simp only[aX,aY,aK,aN] at hw
 refine hw.call hF hro (fun k=>if k=23 then some 0 else none) (fun k=>if k=0 then some 23 else none) ?_ (fun k hk=>by show(if k=0 then some 23 else none)=none;rw[if_neg (by omega)]) (st:=⟨[(23,.cells (l.flatMap Ev.cells))],183⟩) (aG.cons 23 rfl rfl (gB _) aG.nil) rfl ⟨rfl,?_⟩
 ·intro k k' h
  split at h
  ·rename_i e;subst e;cases h;rfl
  ·cases h
 ·simp only[eX,fH,aK,aN,gB]
end Go.Proofs.Pv
