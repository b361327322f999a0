/-
Plain laws on layer 8's check: what a score whose bars and parts are right has.
Conditions: none but those that each statement names.
-/
import Derived.Test.YtlcnbhiklpfpjaaGreatDoorC08h
set_option linter.unusedVariables false
set_option linter.unusedSimpArgs false
set_option maxRecDepth 100000
set_option maxHeartbeats 16000000
namespace Go.Proofs.Pv
open Go Go.Proofs
def nX (s:Sc) (i:Nat):(Int×Int×Int×Int)×Int:=if(partAt s i).right s.bars.length=true then yA s i else(((i:Nat),0,0,0),80)
def Le (s:Sc) (i k v:Nat):Bool:=!Ae (aGj s i k v (((cellAt s i k).getD v ⟨[]⟩).l.length - 1)) (vX s i k v) (uB s i k v)
def aBi (s:Sc) (i k:Nat):Option Nat:=qK (cellAt s i k).length (Le s i k)
def aBj (s:Sc) (i:Nat):Option (Nat×Nat):=(qK s.bars.length fun k=>(aBi s i k).isSome).bind fun k=>(aBi s i k).map fun v=>(k,v)
def aBk (s:Sc):Option (Nat×Nat×Nat):=(qK s.parts.length fun i=>(aBj s i).isSome).bind fun i=>(aBj s i).map fun x=>(i,x)
def Sc.checkR (s:Sc):(Int×Int×Int×Int)×Int:=
 if s.bars.length=0\/s.bars.length>100\/s.parts.length=0\/s.parts.length>8 then((0,0,0,0),82)
 else if nameB s.title=false then((0,0,0,0),80)
 else match qK s.bars.length (fun k=>decide ((xM s k).errR≠0)) with
  |some k=>((0,(k:Nat),0,0),(xM s k).errR)
  | none=>match qK s.parts.length (fun i=>decide ((nX s i).2≠0)) with
   |some i=>nX s i
   |none=>match aBk s with
    |some (i,k,v)=>(((i:Nat),(k:Nat),(v:Nat),(((cellAt s i k).getD v ⟨[]⟩).l.length:Int) - 1),71)
    |none=>((0,0,0,0),0)
structure Sc.small (s:Sc):Prop where
 bars: ∀b∈s.bars,b.ok
 parts: ∀p∈s.parts,p.small
 nbars:s.bars.length<=1000000
 nparts:s.parts.length<=1000000
theorem aJ0 {α:Type} {p:α->Bool} {l:List α} (h: ¬oJ p l>=0): ∀x∈l,p x=false:=by
 unfold oJ at h
 cases hf:l.findIdx? p with
 |some i=>rw[hf] at h;exact absurd (Int.natCast_nonneg i) h
 |none=>
  intro x hx
  have:=List.findIdx?_eq_none_iff.1 hf x hx
  simpa using this
theorem Sl {v:Vo} (h:v.checkR.2=0):v.l.length<=64/\ ∀e∈v.l,e.right=true:=by
 unfold Vo.checkR at h
 split at h
 ·exact absurd h (by decide)
 ·rename_i h1
  split at h
  ·exact absurd h (show¬(60:Int)=0 by decide)
  ·rename_i h2
   exact⟨by omega,fun e he=>by simpa using aJ0 h2 e he⟩
theorem aJ1 {e:Ev} (h:e.right=true):e.ties.length=e.pitches.length:=by
 simp only[Ev.right,Bool.and_eq_true,decide_eq_true_eq] at h
 exact h.2.2.2.1
theorem Gu {v:Vo} {len:Ra} (h:(v.filledR len).2=0):v.checkR.2=0/\v.lenR=(len,0):=by
 unfold Vo.filledR at h
 split at h
 ·rename_i h1
  refine⟨h1,?_⟩
  simp only at h
  split at h
  ·rename_i h2
   split at h
   ·rename_i h3
    simp only[Ra.same,Bool.and_eq_true,beq_iff_eq] at h3
    exact Prod.ext (by cases hv:v.lenR.1;cases len;simp_all) h2
   ·exact absurd h (by decide)
  ·rename_i h2;exact absurd h h2
 ·rename_i h1;exact absurd h h1
theorem aJ2 {v:Vo} {len:Ra} (h:(v.filledR len).2=0) (hl:len.num≠0):0<v.l.length:=by
 obtain⟨h1,h2⟩:=Gu h
 rcases Nat.eq_zero_or_pos v.l.length with h0|h0
 ·exfalso
  have hnil:v.l=[]:=List.length_eq_zero_iff.1 h0
  have hs:v.sumsR.2=0:=by
   unfold Vo.lenR at h2
   split at h2
   ·assumption
   ·rename_i h3;exact absurd (congrArg Prod.snd h2) h3
  have h3:v.lenR=(rZ v.l v.l.length,0):=by rw[Vo.lenR,if_pos hs]
  rw[h3,hnil] at h2
  have:=congrArg (fun x=>x.1.num) h2
  exact hl this.symm
 ·exact h0
theorem aS8 {n d:Int} (hn:1<=n) (hd:1<=d) (h:(Gy n d).2=0):(Gy n d).1.num≠0:=by
 unfold Gy at h ⊢
 rw[if_neg (by omega)] at h ⊢
 split at h
 ·rename_i h1
  rw[if_pos h1]
  have h2:decide (n<0)=decide (d<0):=by rw[decide_eq_false (by omega),decide_eq_false (by omega)]
  simp only[h2,if_true]
  have h3:0<n.natAbs / Nat.gcd n.natAbs d.natAbs:=Nat.div_pos (Nat.le_of_dvd (by omega) (Nat.gcd_dvd_left _ _)) (Nat.gcd_pos_of_pos_left _ (by omega))
  omega
 ·exact absurd h (by decide)
theorem aMk {m:Me} (h:m.lenR.2=0):m.lenR.1.num≠0:=by
 unfold Me.lenR at h ⊢
 split at h
 ·rename_i h1
  rw[if_pos h1]
  have h2:=h1
  simp only[Me.right,Bool.and_eq_true,decide_eq_true_eq] at h2
  exact aS8 h2.1.1 h2.1.2.2.1 h
 ·exact absurd h (by decide)
theorem aPz {b:Ba} (h:b.errR=0):b.meter.lenR.2=0:=by
 unfold Ba.errR at h
 split at h
 ·assumption
 ·rename_i h1;exact absurd h h1
theorem zU {s:Sc} {i:Nat} (h:(nX s i).2=0):(partAt s i).right s.bars.length=true/\(yA s i).2=0:=by
 unfold nX at h
 split at h
 ·rename_i h1;exact⟨h1,h⟩
 ·exact absurd h (show¬(80:Int)=0 by decide)
theorem Ez {n:Nat} {p:Nat->Bool} (h:qK n p=none): ∀j,j<n->p j=false:=by
 intro j hj
 have:=List.find?_eq_none.1 h j (List.mem_range.2 hj)
 simpa using this
theorem Bo {n:Nat} {p:Nat->Bool} {i:Nat} (h:qK n p=some i):p i=true/\i<n:=⟨List.find?_some h,List.mem_range.1 (List.mem_of_find?_eq_some h)⟩
theorem Oo {s:Sc} {i:Nat} (h:(yA s i).2=0): ∀k,k<s.bars.length->(oN s i k).2.2=0:=by
 unfold yA at h
 split at h
 ·rename_i k hk
  have:=(Bo hk).1
  simp at this
  exact absurd h this
 ·rename_i hk
  intro k hkl
  simpa using Ez hk k hkl
theorem aCj {c:List Vo} {d:List Dy} {len:Ra} (h:(zS c d len).2.2=0): ∀n (hn:n<c.length),(c[n].filledR len).2=0:=by
 unfold zS at h
 split at h
 ·exact absurd h (by decide)
 ·split at h
  ·rename_i n hn
   have:=(Bo hn).1
   simp at this
   exact absurd h this
  ·rename_i hn
   intro n hl
   have:=Ez hn n hl
   rw[show Og c n=c[n] from getD_at hl] at this
   simpa using this
theorem Kq {s:Sc} (h1: ∀j,j<s.bars.length->(xM s j).errR=0) {i:Nat} (h2:(nX s i).2=0) {k:Nat} (hk:k<s.bars.length) {n:Nat} (hn:n< (cellAt s i k).length):
  0< ((cellAt s i k)[n]).l.length/\ ∀e∈((cellAt s i k)[n]).l,e.right=true:=by
 have h3:=Oo (zU h2).2 k hk
 have h4:=aCj h3 n hn
 have h5:=aMk (aPz (h1 k hk))
 exact⟨aJ2 h4 h5,(Sl (Gu h4).1).2⟩
theorem Om {α:Type} {l:List α} {i:Nat} {d:α}:l.getD i d∈l\/l.getD i d=d:=by
 by_cases h:i<l.length
 ·exact .inl (by rw[getD_at h];exact List.getElem_mem h)
 ·exact .inr (by rw[List.getD_eq_getElem?_getD,List.getElem?_eq_none (by omega)];rfl)
theorem Sj:rP.small:=by simp [rP,Ev.small]
theorem aMj (s:Sc) (i k n:Nat) (hs:s.small):(vX s i k n).small:=by
 unfold vX
 split
 ·unfold aGj
  rcases Om (l:=((cellAt s i (k+1)).getD n ⟨[]⟩).l) (i:=0) (d:=rP) with h|h
  ·rcases Om (l:=cellAt s i (k+1)) (i:=n) (d:=(⟨[]⟩:Vo)) with h1|h1
   ·unfold cellAt at h1
    rcases Om (l:=(partAt s i).cells) (i:=k+1) (d:=([]:List Vo)) with h2|h2
    ·rcases Om (l:=s.parts) (i:=i) (d:=(⟨⟨#[]⟩,0,0,[],[]⟩:Pa)) with h3|h3
     ·exact(((hs.parts _ h3).voices _ h2).2 _ h1).2 _ h
     ·rw[partAt,h3] at h2;exact absurd h2 (List.not_mem_nil)
    ·rw[h2] at h1;exact absurd h1 (List.not_mem_nil)
   ·rw[h1] at h;exact absurd h (List.not_mem_nil)
  ·rw[h];exact Sj
 ·exact Sj
theorem Ey {s:Sc} (h:s.bars.length=0\/s.bars.length>100\/s.parts.length=0\/s.parts.length>8):s.checkR=((0,0,0,0),82):=by rw[Sc.checkR,if_pos h]
theorem aJz {s:Sc} {k:Nat} (h: ¬(s.bars.length=0\/s.bars.length>100\/s.parts.length=0\/s.parts.length>8)) (hn:nameB s.title=true) (hk:k<s.bars.length) (he:s.bars[k].errR≠0) (hQ: ∀j,j<k->(xM s j).errR=0):s.checkR=((0,((k:Nat):Int),0,0),s.bars[k].errR):=by
 have hv:xM s k=s.bars[k]:=getD_at hk
 rw[Sc.checkR,if_neg h,if_neg (by rw[hn];decide),pY hk (by rw[hv];simpa using he) (fun j hj=>by simpa using hQ j hj)]
 show((0,((k:Nat):Int),0,0),(xM s k).errR)=_
 rw[hv]
theorem Wx {s:Sc} {i:Nat} (h: ¬(s.bars.length=0\/s.bars.length>100\/s.parts.length=0\/s.parts.length>8)) (hn:nameB s.title=true) (hQ: ∀j,j<s.bars.length->(xM s j).errR=0) (hi:i<s.parts.length) (he:(nX s i).2≠0) (hQ2: ∀j,j<i->(nX s j).2=0):s.checkR=nX s i:=by
 rw[Sc.checkR,if_neg h,if_neg (by rw[hn];decide),mZ (fun j hj=>by simpa using hQ j hj)]
 simp only[]
 rw[pY hi (by simpa using he) (fun j hj=>by simpa using hQ2 j hj)]
theorem Zd {s:Sc} (h: ¬(s.bars.length=0\/s.bars.length>100\/s.parts.length=0\/s.parts.length>8)) (hn:nameB s.title=true) (hQ: ∀j,j<s.bars.length->(xM s j).errR=0) (hQ2: ∀j,j<s.parts.length->(nX s j).2=0):s.checkR=(match aBk s with
  |some (i,k,v)=>(((i:Nat),(k:Nat),(v:Nat),(((cellAt s i k).getD v ⟨[]⟩).l.length:Int) - 1),71)
  |none=>((0,0,0,0),0)):=by
 rw[Sc.checkR,if_neg h,if_neg (by rw[hn];decide),mZ (fun j hj=>by simpa using hQ j hj)]
 simp only[]
 rw[mZ (fun j hj=>by simpa using hQ2 j hj)]
 all_goals rfl
theorem lT (s:Sc) (hs:s.small):PC Tryz.prog gl 15 [s.av] (fun w=>w= .tup [pR s.checkR.1,.int .i64 s.checkR.2]):=by
  have hb:=hs.nbars
  have hq:=hs.nparts
  (refine PC.introY 5 mix (fn:=Tryz.f15) Tryz.func15 rfl (names 15 _ Tryz.func15) fun F hF hro W=>?_;simp only[Tryz.ntmps15,Tryz.results15,aJ,Nat.reduceAdd,Nat.reduceSub])
  repeat' (first
    |simp -implicitDefEqProofs (disch:=first|assumption|omega) only[aA,aC,facts,if_pos,Nat.reduceAdd,Nat.reduceLeDiff,Sc.av, *]
    |((with_reducible refine aF (fun _=>?_) (fun _=>?_))<;>try omega)
    |((with_reducible refine dR (fun _=>?_) (fun _=>?_))<;>try omega)
    |((with_reducible refine iH (fun _=>?_) (fun _=>?_))<;>try omega)
    |((with_reducible refine jW (fun _=>?_) (fun _=>?_))<;>try omega)
    |((with_reducible refine dI 30 ?_);refine PC.useY hF (aI1 s.title) (rfl) fun v hv=>?_;subst hv))
  · rename_i h1
    rw[Ey (.inl (by simpa using h1))];rfl
  · rename_i h1 h2
    rw[Ey (.inr (.inl (by omega)))];rfl
  · rename_i h1 h2 h3
    rw[Ey (.inr (.inr (.inl (by simpa using h3))))];rfl
  · rename_i h1 h2 h3 h4
    rw[Ey (.inr (.inr (.inr (by omega))))];rfl
  rotate_left
  · rename_i h1 h2 h3 h4 h5
    have hl: ¬(s.bars.length=0\/s.bars.length>100\/s.parts.length=0\/s.parts.length>8):=by
      rintro(h|h|h|h);{simp [h] at h1};{omega};{simp [h] at h3};{omega}
    rw[Sc.checkR,if_neg hl,if_pos h5];rfl
  rename_i h1 h2 h3 h4 h5
  have hl: ¬(s.bars.length=0\/s.bars.length>100\/s.parts.length=0\/s.parts.length>8):=by
    rintro(h|h|h|h);{simp [h] at h1};{omega};{simp [h] at h3};{omega}
  have hb100:s.bars.length<=100:=by omega
  have hq8:s.parts.length<=8:=by omega
  clear h1 h2 h3 h4
  refine kL (fD 118 [1,2,3,47,48,49]) [] 100 s.bars.length (fun k (_:Unit)=>⟨[.ud,.ptr 0 0,.ptr 1 0,.ptr 2 0,.ud,.ud,.ud,.ud,.ud,.ud,.ud,.ud,.ud,.ud,.ud,.ud,.ud,.ud,.ud,.ud,.ud,.ud,.ud,.ud,.ud,.ud,.ud,.ud,.ud,.ud,.ud,.ud,.ud,.ud,.ud,.ud,.ud,.ud,.ud,.ud,.ud,.ud,.ud,.ud,.ud,.ud,.ud,.sl 14 (s.bars.map Ba.av) .none,.int .i64 (s.bars.length:Nat),.int .i64 (k:Nat),.ud,.ud,.ud,.ud,.ud,.ud,.ud,.ud,.ud,.ud,.ud,.ud,.ud,.ud,.ud,.ud,.ud,.ud,.ud,.ud,.ud,.ud,.ud,.ud,.ud,.ud,.ud,.ud,.ud,.ud,.ud,.ud,.ud,.ud,.ud,.ud,.ud,.ud,.ud,.ud,.ud,.ud,.ud,.ud,.ud,.ud,.ud,.ud,.ud,.ud,.ud,.ud,.ud,.ud,.ud,.ud,.ud,.ud,.ud,.ud,.ud,.ud,.ud,.ud,.ud,.ud,.ud,.ud],[]⟩) (fun _ _=>⟨[(2,.cells [.int .i64 0]),(1,.cells [.int .i64 0,.int .i64 0,.int .i64 0,.int .i64 0]),(0,.cells [.str s.title,.sl 14 (s.bars.map Ba.av) .none,.sl 5 (s.parts.map Pa.av) .none])],100⟩) (fun k _=> ∀j,j<k->(xM s j).errR=0) () oO rfl rfl ?_
  rintro k ⟨⟩ hk hQ
  repeat' (first
    |simp -implicitDefEqProofs (disch:=first|assumption|omega) only[aA,aC,facts,if_pos,Nat.reduceAdd,Nat.reduceLeDiff,wrap_in,List.getElem?_eq_getElem,Ba.av, *]
    |((with_reducible refine aF (fun _=>?_) (fun _=>?_))<;>try omega)
    |((with_reducible refine dL (fun _=>?_) (fun _=>?_))<;>try omega)
    |((with_reducible refine dI 31 ?_);refine PC.useY hF (aVz s.bars[k] (hs.bars _ (List.getElem_mem (by omega)))) (rfl) fun v hv=>?_;subst hv))
  · rename_i q1 q2
    rw[aJz hl h5 (by omega) (by simpa using q2) hQ];rfl
  · rename_i q1 q2
    have hk':k<s.bars.length:=by omega
    exact fJ () hk' (lX hQ (by rw[show xM s k=s.bars[k] from getD_at hk'];simpa using q2)) rfl rfl
  rename_i q1
  have hke:k=s.bars.length:=by omega
  subst hke
  refine kL (fD 118 [1,2,3,63,64,65]) [] 200 s.parts.length (fun i (_:Unit)=>⟨[.ud,.ptr 0 0,.ptr 1 0,.ptr 2 0,.ud,.ud,.ud,.ud,.ud,.ud,.ud,.ud,.ud,.ud,.ud,.ud,.ud,.ud,.ud,.ud,.ud,.ud,.ud,.ud,.ud,.ud,.ud,.ud,.ud,.ud,.ud,.ud,.ud,.ud,.ud,.ud,.ud,.ud,.ud,.ud,.ud,.ud,.ud,.ud,.ud,.ud,.ud,.ud,.ud,.ud,.ud,.ud,.ud,.ud,.ud,.ud,.ud,.ud,.ud,.ud,.ud,.ud,.ud,.sl 5 (s.parts.map Pa.av) .none,.int .i64 (s.parts.length:Nat),.int .i64 (i:Nat),.ud,.ud,.ud,.ud,.ud,.ud,.ud,.ud,.ud,.ud,.ud,.ud,.ud,.ud,.ud,.ud,.ud,.ud,.ud,.ud,.ud,.ud,.ud,.ud,.ud,.ud,.ud,.ud,.ud,.ud,.ud,.ud,.ud,.ud,.ud,.ud,.ud,.ud,.ud,.ud,.ud,.ud,.ud,.ud,.ud,.ud,.ud,.ud,.ud,.ud,.ud,.ud],[]⟩) (fun _ _=>⟨[(2,.cells [.int .i64 0]),(1,.cells [.int .i64 0,.int .i64 0,.int .i64 0,.int .i64 0]),(0,.cells [.str s.title,.sl 14 (s.bars.map Ba.av) .none,.sl 5 (s.parts.map Pa.av) .none])],200⟩) (fun i _=> ∀j,j<i->(nX s j).2=0) () oO rfl rfl ?_
  rintro i ⟨⟩ hi hQ2
  by_cases hil:i<s.parts.length
  · have hpi:partAt s i=s.parts[i]:=getD_at hil
    have e1:s.parts[i]?=some s.parts[i]:=List.getElem?_eq_getElem hil
    have hps:=hs.parts _ (List.getElem_mem hil)
    generalize hpp:s.parts[i]=p at hpi e1 hps
    by_cases hr:p.right s.bars.length=true
    · have hr':=hr
      simp only[Pa.right,Bool.and_eq_true,decide_eq_true_eq] at hr'
      obtain⟨_,_,hc,hd⟩:=hr'
      have hpe:nX s i=yA s i:=by rw[nX,hpi,if_pos hr]
      repeat' (first
    |simp -implicitDefEqProofs (disch:=first|assumption|omega) only[aA,aC,facts,if_pos,Nat.reduceAdd,Nat.reduceLeDiff,Int.reduceBNe,wrap_in,e1,Pa.av,hr,pR,qV, *]
    |((with_reducible refine aF (fun _=>?_) (fun _=>?_))<;>try omega)
    |((with_reducible refine dL (fun _=>?_) (fun _=>?_))<;>try omega)
    |((with_reducible refine dI 32 ?_);refine PC.useY hF (aC9 p s.bars.length) (rfl) fun v hv=>?_;subst hv)
    | ((with_reducible refine dI 33 ?_);refine PC.useY hF (cells_ok s i p e1 hb hs.bars (by omega) (by omega) hps) (rfl) fun v hv=>?_;subst hv))
      · rename_i q1 q2
        rw[Wx hl h5 (fun j hj=>hQ j hj) hil (by rw[hpe];simpa using q2) hQ2,hpe]
      · rename_i q1 q2
        exact fJ () hil (lX hQ2 (by rw[hpe];simpa using q2)) rfl rfl
    · have hpe:nX s i=((((i:Nat):Int),0,0,0),80):=by rw[nX,hpi,if_neg hr]
      repeat' (first
    |simp -implicitDefEqProofs (disch:=first|assumption|omega) only[aA,aC,facts,if_pos,Nat.reduceAdd,Nat.reduceLeDiff,Int.reduceBNe,e1,Pa.av,hr, *]
    |((with_reducible refine aF (fun _=>?_) (fun _=>?_))<;>try omega)
    | ((with_reducible refine dI 32 ?_);refine PC.useY hF (aC9 p s.bars.length) (rfl) fun v hv=>?_;subst hv))
      rw[Wx hl h5 (fun j hj=>hQ j hj) hil (by rw[hpe];show(80:Int)≠0;decide) hQ2,hpe];rfl
  · repeat' (first
    |simp -implicitDefEqProofs (disch:=first|assumption|omega) only[aA,aC,facts,if_pos,Nat.reduceAdd, *]
    |((with_reducible refine aF (fun _=>?_) (fun _=>?_))<;>try omega))
    (refine Tn hF hro mix names 2 (fn:=Tryz.f34) Tryz.func34 rfl ?_;simp only[Tryz.ntmps34,Tryz.results34,aJ,Nat.reduceAdd,Nat.reduceSub])
    repeat' (simp -implicitDefEqProofs (disch:=first|assumption|omega) only[aA,aC,Nat.reduceAdd,aBu, *])
    have hie:i=s.parts.length:=by omega
    subst hie
    refine aOd 79 [] [.ptr 202 0] rfl (by simp only[Gn,Tryz.func79];rfl) ?_
    intro ca cb hAs hBo
    (refine Tn hF hro mix names 7 (fn:=Tryz.f79) Tryz.func79 rfl ?_;simp only[Tryz.ntmps79,Tryz.results79,aJ,Nat.reduceAdd,Nat.reduceSub])
    repeat' (simp -implicitDefEqProofs (disch:=first|assumption|omega) only[aA,aC,facts,if_pos,Nat.reduceAdd,Nat.reduceLeDiff, *])
    refine kL (fD 43 [0,10,11,12]) [] 300 s.parts.length (fun i (_:Unit)=>⟨[.yld 207,.ud,.ud,.ud,.ud,.ud,.ud,.ud,.ud,.ud,.sl 5 (s.parts.map Pa.av) .none,.int .i64 (s.parts.length:Nat),.int .i64 (i:Nat),.ud,.ud,.ud,.ud,.ud,.ud,.ud,.ud,.ud,.ud,.ud,.ud,.ud,.ud,.ud,.ud,.ud,.ud,.ud,.ud,.ud,.ud,.ud,.ud,.ud,.ud,.ud,.ud,.ud,.ud],[]⟩) (fun _ _=>⟨[(207,.loop .ready none [.ud,.ptr 0 0,.ptr 1 0,.ptr 2 0,.ud,.ud,.ud,.ud,.ud,.ud,.ud,.ud,.ud,.ud,.ud,.ud,.ud,.ud,.ud,.ud,.ud,.ud,.ud,.ud,.ud,.ud,.ud,.ud,.ud,.ud,.ud,.ud,.ud,.ud,.ud,.ud,.ud,.ud,.ud,.ud,.ud,.ud,.ud,.ud,.ud,.ud,.ud,.ud,.ud,.ud,.ud,.ud,.ud,.ud,.ud,.ud,.ud,.ud,.ud,.ud,.ud,.ud,.ud,.sl 5 (s.parts.map Pa.av) .none,.int .i64 (s.parts.length:Nat),.int .i64 (s.parts.length:Nat),.bool false,.ud,.ud,.ud,.ud,.ud,.ud,.ud,.ud,.ud,.ud,.ud,.ud,.ud,.ud,.ud,.ud,.ud,.ud,.ud,.ud,.ud,.ud,.ud,.ud,.agg [.str s.title,.sl 14 (s.bars.map Ba.av) .none,.sl 5 (s.parts.map Pa.av) .none],.fn 79 [] [.ptr 202 0],.ud,.ud,.ud,.ud,.ud,.ud,.ud,.ud,.ud,.ud,.ud,.ud,.ud,.ud,.ud,.ud,.ud,.ud,.ud,.ud,.ud,.ud,.ud,.ud,.ud] #[93,94] ca cb 206),(206,.dfd true),(202,.cells [.str s.title,.sl 14 (s.bars.map Ba.av) .none,.sl 5 (s.parts.map Pa.av) .none]),(2,.cells [.int .i64 0]),(1,.cells [.int .i64 0,.int .i64 0,.int .i64 0,.int .i64 0]),(0,.cells [.str s.title,.sl 14 (s.bars.map Ba.av) .none,.sl 5 (s.parts.map Pa.av) .none])],300⟩) (fun i _=> ∀j,j<i->aBj s j=none) () oO ?_ ?_ ?_
    · rfl
    · rfl
    rintro i ⟨⟩ hi hQ3
    by_cases hil:i<s.parts.length
    · have hpi:partAt s i=s.parts[i]:=getD_at hil
      have e1:s.parts[i]?=some s.parts[i]:=List.getElem?_eq_getElem hil
      have hps:=hs.parts _ (List.getElem_mem hil)
      generalize hpp:s.parts[i]=p at hpi e1 hps
      have hpe:=hQ2 i hil
      have hr:=(zU hpe).1
      rw[hpi] at hr
      simp only[Pa.right,Bool.and_eq_true,decide_eq_true_eq] at hr
      obtain⟨_,_,hc,hd⟩:=hr
      have hc':p.cells.length=s.bars.length:=by omega
      repeat' (first
    |simp -implicitDefEqProofs (disch:=first|assumption|omega) only[aA,aC,facts,if_pos,Nat.reduceAdd,Nat.reduceLeDiff,e1,Pa.av, *]
    | ((with_reducible refine aF (fun _=>?_) (fun _=>?_))<;>try omega))
      refine kL (fD 43 [0,3,10,11,12,18,19,20]) [] 400 s.bars.length (fun k (_:Unit)=>⟨[.yld 207,.ud,.ud,.int .i64 (i:Nat),.ud,.ud,.ud,.ud,.ud,.ud,.sl 5 (s.parts.map Pa.av) .none,.int .i64 (s.parts.length:Nat),.int .i64 (i:Nat),.ud,.ud,.ud,.ud,.ud,.sl 1 (p.cells.map bU) .none,.int .i64 (s.bars.length:Nat),.int .i64 (k:Nat),.ud,.ud,.ud,.ud,.ud,.ud,.ud,.ud,.ud,.ud,.ud,.ud,.ud,.ud,.ud,.ud,.ud,.ud,.ud,.ud,.ud,.ud],[]⟩) (fun _ _=>⟨[(304,.cells [.str p.name,.int .i64 p.clef,.int .i64 p.channel,.sl 1 (p.cells.map bU) .none,.sl 1 (p.dyns.map eP) .none]),(207,.loop .ready none [.ud,.ptr 0 0,.ptr 1 0,.ptr 2 0,.ud,.ud,.ud,.ud,.ud,.ud,.ud,.ud,.ud,.ud,.ud,.ud,.ud,.ud,.ud,.ud,.ud,.ud,.ud,.ud,.ud,.ud,.ud,.ud,.ud,.ud,.ud,.ud,.ud,.ud,.ud,.ud,.ud,.ud,.ud,.ud,.ud,.ud,.ud,.ud,.ud,.ud,.ud,.ud,.ud,.ud,.ud,.ud,.ud,.ud,.ud,.ud,.ud,.ud,.ud,.ud,.ud,.ud,.ud,.sl 5 (s.parts.map Pa.av) .none,.int .i64 (s.parts.length:Nat),.int .i64 (s.parts.length:Nat),.bool false,.ud,.ud,.ud,.ud,.ud,.ud,.ud,.ud,.ud,.ud,.ud,.ud,.ud,.ud,.ud,.ud,.ud,.ud,.ud,.ud,.ud,.ud,.ud,.ud,.agg [.str s.title,.sl 14 (s.bars.map Ba.av) .none,.sl 5 (s.parts.map Pa.av) .none],.fn 79 [] [.ptr 202 0],.ud,.ud,.ud,.ud,.ud,.ud,.ud,.ud,.ud,.ud,.ud,.ud,.ud,.ud,.ud,.ud,.ud,.ud,.ud,.ud,.ud,.ud,.ud,.ud,.ud] #[93,94] ca cb 206),(206,.dfd true),(202,.cells [.str s.title,.sl 14 (s.bars.map Ba.av) .none,.sl 5 (s.parts.map Pa.av) .none]),(2,.cells [.int .i64 0]),(1,.cells [.int .i64 0,.int .i64 0,.int .i64 0,.int .i64 0]),(0,.cells [.str s.title,.sl 14 (s.bars.map Ba.av) .none,.sl 5 (s.parts.map Pa.av) .none])],400⟩) (fun k _=> ∀j,j<k->aBi s i j=none) () oO rfl rfl ?_
      rintro k ⟨⟩ hk hQ4
      by_cases hkl:k<s.bars.length
      · have hck:cellAt s i k=p.cells[k]:=by rw[cellAt,hpi];exact getD_at (by omega)
        have hvs:=hps.voices _ (List.getElem_mem (show k<p.cells.length by omega))
        have e2:p.cells[k]?=some p.cells[k]:=List.getElem?_eq_getElem (by omega)
        have hfull:=fun n hn=>Kq (n:=n) (fun j hj=>hQ j hj) hpe hkl hn
        rw[hck] at hfull
        generalize hcc:p.cells[k]=c at hck hvs e2 hfull
        have hvl:=hvs.1
        repeat' (first
    |simp -implicitDefEqProofs (disch:=first|assumption|omega) only[aA,aC,facts,Nat.reduceAdd,wrap_in,e2,bU, *]
    | ((with_reducible refine aF (fun _=>?_) (fun _=>?_))<;>try omega))
        refine kL (fD 43 [0,3,5,10,11,12,18,19,20,25,26,27]) [] 500 c.length (fun n (_:Unit)=>⟨[.yld 207,.ud,.ud,.int .i64 (i:Nat),.ud,.int .i64 (k:Nat),.ud,.ud,.ud,.ud,.sl 5 (s.parts.map Pa.av) .none,.int .i64 (s.parts.length:Nat),.int .i64 (i:Nat),.ud,.ud,.ud,.ud,.ud,.sl 1 (p.cells.map bU) .none,.int .i64 (s.bars.length:Nat),.int .i64 (k:Nat),.ud,.ud,.ud,.ud,.sl 1 (c.map Vo.av) .none,.int .i64 (c.length:Nat),.int .i64 (n:Nat),.ud,.ud,.ud,.ud,.ud,.ud,.ud,.ud,.ud,.ud,.ud,.ud,.ud,.ud,.ud],[]⟩) (fun _ _=>⟨[(304,.cells [.str p.name,.int .i64 p.clef,.int .i64 p.channel,.sl 1 (p.cells.map bU) .none,.sl 1 (p.dyns.map eP) .none]),(207,.loop .ready none [.ud,.ptr 0 0,.ptr 1 0,.ptr 2 0,.ud,.ud,.ud,.ud,.ud,.ud,.ud,.ud,.ud,.ud,.ud,.ud,.ud,.ud,.ud,.ud,.ud,.ud,.ud,.ud,.ud,.ud,.ud,.ud,.ud,.ud,.ud,.ud,.ud,.ud,.ud,.ud,.ud,.ud,.ud,.ud,.ud,.ud,.ud,.ud,.ud,.ud,.ud,.ud,.ud,.ud,.ud,.ud,.ud,.ud,.ud,.ud,.ud,.ud,.ud,.ud,.ud,.ud,.ud,.sl 5 (s.parts.map Pa.av) .none,.int .i64 (s.parts.length:Nat),.int .i64 (s.parts.length:Nat),.bool false,.ud,.ud,.ud,.ud,.ud,.ud,.ud,.ud,.ud,.ud,.ud,.ud,.ud,.ud,.ud,.ud,.ud,.ud,.ud,.ud,.ud,.ud,.ud,.ud,.agg [.str s.title,.sl 14 (s.bars.map Ba.av) .none,.sl 5 (s.parts.map Pa.av) .none],.fn 79 [] [.ptr 202 0],.ud,.ud,.ud,.ud,.ud,.ud,.ud,.ud,.ud,.ud,.ud,.ud,.ud,.ud,.ud,.ud,.ud,.ud,.ud,.ud,.ud,.ud,.ud,.ud,.ud] #[93,94] ca cb 206),(206,.dfd true),(202,.cells [.str s.title,.sl 14 (s.bars.map Ba.av) .none,.sl 5 (s.parts.map Pa.av) .none]),(2,.cells [.int .i64 0]),(1,.cells [.int .i64 0,.int .i64 0,.int .i64 0,.int .i64 0]),(0,.cells [.str s.title,.sl 14 (s.bars.map Ba.av) .none,.sl 5 (s.parts.map Pa.av) .none])],500⟩) (fun n _=> ∀j,j<n->Le s i k j=false) () oO rfl rfl ?_
        rintro n ⟨⟩ hn hQ5
        repeat' (first
    |simp -implicitDefEqProofs (disch:=first|assumption|omega) only[aA,aC,facts,if_pos,Nat.reduceAdd,Nat.reduceLeDiff,wrap_in,List.getElem?_eq_getElem,Vo.av, *]
    |with_reducible refine kV ?_
    | ((with_reducible refine aF (fun _=>?_) (fun _=>?_))<;>try omega))
        · rename_i hnl
          have hn':n<c.length:=by omega
          obtain⟨w,hw⟩: ∃w,c[n]=w:=⟨_,rfl⟩
          have hwf:=hfull n hn'
          have hws:=hvs.2 _ (List.getElem_mem hn')
          rw[hw] at hwf hws
          simp only[hw]
          unfold aAa
          rw[aHq]
          refine aQ9 (pd:=none) (ps:= #[93,94]) (ca:=ca) (bo:=cb) (kd:=206) (s:=[.ud,.ptr 0 0,.ptr 1 0,.ptr 2 0,.ud,.ud,.ud,.ud,.ud,.ud,.ud,.ud,.ud,.ud,.ud,.ud,.ud,.ud,.ud,.ud,.ud,.ud,.ud,.ud,.ud,.ud,.ud,.ud,.ud,.ud,.ud,.ud,.ud,.ud,.ud,.ud,.ud,.ud,.ud,.ud,.ud,.ud,.ud,.ud,.ud,.ud,.ud,.ud,.ud,.ud,.ud,.ud,.ud,.ud,.ud,.ud,.ud,.ud,.ud,.ud,.ud,.ud,.ud,.sl 5 (s.parts.map Pa.av) .none,.int .i64 (s.parts.length:Nat),.int .i64 (s.parts.length:Nat),.bool false,.ud,.ud,.ud,.ud,.ud,.ud,.ud,.ud,.ud,.ud,.ud,.ud,.ud,.ud,.ud,.ud,.ud,.ud,.ud,.ud,.ud,.ud,.ud,.ud,.agg [.str s.title,.sl 14 (s.bars.map Ba.av) .none,.sl 5 (s.parts.map Pa.av) .none],.fn 79 [] [.ptr 202 0],.ud,.ud,.ud,.ud,.ud,.ud,.ud,.ud,.ud,.ud,.ud,.ud,.ud,.ud,.ud,.ud,.ud,.ud,.ud,.ud,.ud,.ud,.ud,.ud,.ud]) rfl rfl ?_
          cases hAs.eq
          cases hBo.eq
          repeat' (simp -implicitDefEqProofs (disch:=first|assumption|omega) only[aA,aC,facts,Nat.reduceAdd,Cb.eq_1,aOe, *])
          rw[aFx rfl]
          have hlast:w.l.length - 1<w.l.length:=by omega
          have hbeh:=aPe s i k n 0 hil hb hkl (by rw[hpi];exact hc') (by omega) (fun u hu=>by
            by_cases hk1:k+1<s.bars.length
            · obtain⟨m,hm,rfl⟩:=List.mem_iff_getElem.1 hu
              exact(Kq (fun j hj=>hQ j hj) hpe hk1 hm).1
            · rw[cellAt,List.getD_eq_getElem?_getD,List.getElem?_eq_none (by rw[hpi];omega)] at hu
              exact absurd hu (List.not_mem_nil))
          have hsm:=hws.2 _ (List.getElem_mem hlast)
          have hti:=aJ1 (hwf.2 _ (List.getElem_mem hlast))
          have elast:w.l[w.l.length - 1]?=some w.l[w.l.length - 1]:=List.getElem?_eq_getElem hlast
          have hwl:=hws.1
          have htb:Le s i k n=!Ae (w.l[w.l.length - 1]) (vX s i k n) (uB s i k n):=by
            have q1:c.getD n ⟨[]⟩=w:=by rw[getD_at hn',hw]
            rw[Le,aGj,hck,q1,getD_at hlast]
          generalize w.l[w.l.length - 1]=e at hsm hti elast htb
          have hnx:=aMj s i k n hs
          generalize vX s i k n=nx at hnx hbeh htb
          generalize uB s i k n=hx at hbeh htb
          repeat' (first
    |simp -implicitDefEqProofs (disch:=first|assumption|omega) only[aA,aC,facts,if_pos,Nat.reduceAdd,Nat.reduceLeDiff,wrap_in,hput.eq_def,Ev.av,elast,Gf, *]
    |((with_reducible refine jS 36 ?_);refine dK (aRr e nx hx hsm hnx hti) (rfl) ?_)
    |((with_reducible refine dR (fun _=>?_) (fun _=>?_))<;>try omega)
    |((with_reducible refine fQ ?_);refine gZ _ rfl (by decide+kernel) ?_)
    | ((with_reducible refine dI 35 ?_);refine PC.useY hF hbeh (rfl) fun v hv=>?_;subst hv))
          · rename_i hld
            rw[aD6 rfl]
            repeat' (simp -implicitDefEqProofs (disch:=first|assumption|omega) only[aA,aC,Nat.reduceAdd,wrap_in,hput.eq_def, *])
            exact fJ () hn' (lX hQ5 (by rw[htb,hld];rfl)) rfl rfl
          · rename_i hld
            have hbad:Le s i k n=true:=by rw[htb,hld];rfl
            have htk:aBi s i k=some n:=by rw[aBi,hck];exact pY hn' hbad hQ5
            have hti2:aBj s i=some (k,n):=by rw[aBj,pY hkl (by rw[htk];rfl) (fun j hj=>by rw[hQ4 j hj];rfl)];simp only[Option.bind_some,htk,Option.map_some]
            have hts:aBk s=some (i,k,n):=by rw[aBk,pY hil (by rw[hti2];rfl) (fun j hj=>by rw[hQ3 j hj];rfl)];simp only[Option.bind_some,hti2,Option.map_some]
            have hlw:((cellAt s i k).getD n ⟨[]⟩).l.length=w.l.length:=by rw[hck,getD_at hn',hw]
            have hchk:s.checkR=((((i:Nat):Int),((k:Nat):Int),((n:Nat):Int),(w.l.length:Int) - 1),71):=by rw[Zd hl h5 (fun j hj=>hQ j hj) (fun j hj=>hQ2 j (by omega)),hts];simp only[hlw]
            rw[aLa rfl]
            repeat' (simp -implicitDefEqProofs (disch:=first|assumption|omega) only[aA,aC,Nat.reduceAdd,hput.eq_def, *])
            rw[aK8 rfl]
            rw[Zp,aFf]
            simp -implicitDefEqProofs only[Ee.eq_def,hdel.eq_1,hdel.eq_2,Nat.reduceAdd,Nat.reduceEqDiff,if_true,if_false]
            rw[l9 rfl]
            repeat' (simp -implicitDefEqProofs (disch:=first|assumption|omega) only[aA,aC,facts,if_pos,if_neg,Nat.reduceAdd,Nat.reduceEqDiff,hset.eq_def, *])
            rfl
        · rename_i hnl
          have hne:n=c.length:=by omega
          exact fJ () hkl (lX hQ4 (by rw[aBi,hck];exact mZ fun j hj=>hQ5 j (by omega))) rfl rfl
      · repeat' (first
    |simp -implicitDefEqProofs (disch:=first|assumption|omega) only[aA,aC,facts,Nat.reduceAdd,wrap_in, *]
    | ((with_reducible refine aF (fun _=>?_) (fun _=>?_))<;>try omega))
        exact fJ () hil (lX hQ3 (by rw[aBj,mZ fun j hj=>by rw[hQ4 j (by omega)];rfl];rfl)) rfl rfl
    · repeat' (first
    |simp -implicitDefEqProofs (disch:=first|assumption|omega) only[aA,aC,facts,Nat.reduceAdd, *]
    | ((with_reducible refine aF (fun _=>?_) (fun _=>?_))<;>try omega))
      have hte:aBk s=none:=by rw[aBk,mZ fun j hj=>by rw[hQ3 j (by omega)];rfl];rfl
      have hchk:s.checkR=((0,0,0,0),0):=by rw[Zd hl h5 (fun j hj=>hQ j hj) (fun j hj=>hQ2 j (by omega)),hte]
      rw[aHp rfl]
      repeat' (simp -implicitDefEqProofs (disch:=first|assumption|omega) only[aA,aC,facts,if_pos,if_neg,Nat.reduceAdd,Nat.reduceEqDiff,Ee.eq_def, *])
      rw[l9 rfl]
      repeat' (simp -implicitDefEqProofs (disch:=first|assumption|omega) only[aA,aC,facts,if_pos,if_neg,Nat.reduceAdd,Nat.reduceEqDiff,hset.eq_def, *])
      rfl
end Go.Proofs.Pv
