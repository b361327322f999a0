/-
Plain laws on layer 8's check: what a score whose bars and parts are right has.
Conditions: none but those that each statement names.
-/
import Derived.Test.YtoaofjhadfihjaaGreatDoorC08h
set_option linter.unusedVariables false
set_option linter.unusedSimpArgs false
set_option maxRecDepth 100000
set_option maxHeartbeats 16000000
namespace Go.Proofs.Pv
open Go Go.Proofs
def nU (s:Sc) (i:Nat):(Int×Int×Int×Int)×Int:=if(partAt s i).right s.bars.length=true then xR s i else(((i:Nat),0,0,0),80)
def La (s:Sc) (i k v:Nat):Bool:=!zZ (aGd s i k v (((cellAt s i k).getD v ⟨[]⟩).l.length - 1)) (vT s i k v) (tV s i k v)
def aBb (s:Sc) (i k:Nat):Option Nat:=qI (cellAt s i k).length (La s i k)
def aBc (s:Sc) (i:Nat):Option (Nat×Nat):=(qI s.bars.length fun k=>(aBb s i k).isSome).bind fun k=>(aBb s i k).map fun v=>(k,v)
def aBd (s:Sc):Option (Nat×Nat×Nat):=(qI s.parts.length fun i=>(aBc s i).isSome).bind fun i=>(aBc s i).map fun x=>(i,x)
def Sc.checkR (s:Sc):(Int×Int×Int×Int)×Int:=
 if s.bars.length=0\/s.bars.length>100\/s.parts.length=0\/s.parts.length>8 then((0,0,0,0),82)
 else if nameB s.title=false then((0,0,0,0),80)
 else match qI s.bars.length (fun k=>decide ((xF s k).errR≠0)) with
  |some k=>((0,(k:Nat),0,0),(xF s k).errR)
  | none=>match qI s.parts.length (fun i=>decide ((nU s i).2≠0)) with
   |some i=>nU s i
   |none=>match aBd s with
    |some (i,k,v)=>(((i:Nat),(k:Nat),(v:Nat),(((cellAt s i k).getD v ⟨[]⟩).l.length:Int) - 1),71)
    |none=>((0,0,0,0),0)
structure Sc.small (s:Sc):Prop where
 bars: ∀b∈s.bars,b.ok
 parts: ∀p∈s.parts,p.small
 nbars:s.bars.length<=1000000
 nparts:s.parts.length<=1000000
theorem aJs {α:Type} {p:α->Bool} {l:List α} (h: ¬oG p l>=0): ∀x∈l,p x=false:=by
 unfold oG at h
 cases hf:l.findIdx? p with
 |some i=>rw[hf] at h;exact absurd (Int.natCast_nonneg i) h
 |none=>
  intro x hx
  have:=List.findIdx?_eq_none_iff.1 hf x hx
  simpa using this
theorem Rz {v:Vo} (h:v.checkR.2=0):v.l.length<=64/\ ∀e∈v.l,e.right=true:=by
 unfold Vo.checkR at h
 split at h
 ·exact absurd h (by decide)
 ·rename_i h1
  split at h
  ·exact absurd h (show¬(60:Int)=0 by decide)
  ·rename_i h2
   exact⟨by omega,fun e he=>by simpa using aJs h2 e he⟩
theorem aJt {e:Ev} (h:e.right=true):e.ties.length=e.pitches.length:=by
 simp only[Ev.right,Bool.and_eq_true,decide_eq_true_eq] at h
 exact h.2.2.2.1
theorem Gm {v:Vo} {len:Ra} (h:(v.filledR len).2=0):v.checkR.2=0/\v.lenR=(len,0):=by
 unfold Vo.filledR at h
 split at h
 ·rename_i h1
  refine⟨h1,?_⟩
  simp only at h
  split at h
  ·rename_i h2
   split at h
   ·rename_i h3
    simp only[Ra.same,Bool.and_eq_true,beq_iff_eq] at h3
    exact Prod.ext (by cases hv:v.lenR.1;cases len;simp_all) h2
   ·exact absurd h (by decide)
  ·rename_i h2;exact absurd h h2
 ·rename_i h1;exact absurd h h1
theorem aJu {v:Vo} {len:Ra} (h:(v.filledR len).2=0) (hl:len.num≠0):0<v.l.length:=by
 obtain⟨h1,h2⟩:=Gm h
 rcases Nat.eq_zero_or_pos v.l.length with h0|h0
 ·exfalso
  have hnil:v.l=[]:=List.length_eq_zero_iff.1 h0
  have hs:v.sumsR.2=0:=by
   unfold Vo.lenR at h2
   split at h2
   ·assumption
   ·rename_i h3;exact absurd (congrArg Prod.snd h2) h3
  have h3:v.lenR=(rU v.l v.l.length,0):=by rw[Vo.lenR,if_pos hs]
  rw[h3,hnil] at h2
  have:=congrArg (fun x=>x.1.num) h2
  exact hl this.symm
 ·exact h0
theorem aS3 {n d:Int} (hn:1<=n) (hd:1<=d) (h:(Gs n d).2=0):(Gs n d).1.num≠0:=by
 unfold Gs at h ⊢
 rw[if_neg (by omega)] at h ⊢
 split at h
 ·rename_i h1
  rw[if_pos h1]
  have h2:decide (n<0)=decide (d<0):=by rw[decide_eq_false (by omega),decide_eq_false (by omega)]
  simp only[h2,if_true]
  have h3:0<n.natAbs / Nat.gcd n.natAbs d.natAbs:=Nat.div_pos (Nat.le_of_dvd (by omega) (Nat.gcd_dvd_left _ _)) (Nat.gcd_pos_of_pos_left _ (by omega))
  omega
 ·exact absurd h (by decide)
theorem aMe {m:Me} (h:m.lenR.2=0):m.lenR.1.num≠0:=by
 unfold Me.lenR at h ⊢
 split at h
 ·rename_i h1
  rw[if_pos h1]
  have h2:=h1
  simp only[Me.right,Bool.and_eq_true,decide_eq_true_eq] at h2
  exact aS3 h2.1.1 h2.1.2.2.1 h
 ·exact absurd h (by decide)
theorem aPr {b:Ba} (h:b.errR=0):b.meter.lenR.2=0:=by
 unfold Ba.errR at h
 split at h
 ·assumption
 ·rename_i h1;exact absurd h h1
theorem zO {s:Sc} {i:Nat} (h:(nU s i).2=0):(partAt s i).right s.bars.length=true/\(xR s i).2=0:=by
 unfold nU at h
 split at h
 ·rename_i h1;exact⟨h1,h⟩
 ·exact absurd h (show¬(80:Int)=0 by decide)
theorem Eo {n:Nat} {p:Nat->Bool} (h:qI n p=none): ∀j,j<n->p j=false:=by
 intro j hj
 have:=List.find?_eq_none.1 h j (List.mem_range.2 hj)
 simpa using this
theorem Bg {n:Nat} {p:Nat->Bool} {i:Nat} (h:qI n p=some i):p i=true/\i<n:=⟨List.find?_some h,List.mem_range.1 (List.mem_of_find?_eq_some h)⟩
theorem Oj {s:Sc} {i:Nat} (h:(xR s i).2=0): ∀k,k<s.bars.length->(oJ s i k).2.2=0:=by
 unfold xR at h
 split at h
 ·rename_i k hk
  have:=(Bg hk).1
  simp at this
  exact absurd h this
 ·rename_i hk
  intro k hkl
  simpa using Eo hk k hkl
theorem aCe {c:List Vo} {d:List Dy} {len:Ra} (h:(zM c d len).2.2=0): ∀n (hn:n<c.length),(c[n].filledR len).2=0:=by
 unfold zM at h
 split at h
 ·exact absurd h (by decide)
 ·split at h
  ·rename_i n hn
   have:=(Bg hn).1
   simp at this
   exact absurd h this
  ·rename_i hn
   intro n hl
   have:=Eo hn n hl
   rw[show Ob c n=c[n] from getD_at hl] at this
   simpa using this
theorem Jy {s:Sc} (h1: ∀j,j<s.bars.length->(xF s j).errR=0) {i:Nat} (h2:(nU s i).2=0) {k:Nat} (hk:k<s.bars.length) {n:Nat} (hn:n< (cellAt s i k).length):
  0< ((cellAt s i k)[n]).l.length/\ ∀e∈((cellAt s i k)[n]).l,e.right=true:=by
 have h3:=Oj (zO h2).2 k hk
 have h4:=aCe h3 n hn
 have h5:=aMe (aPr (h1 k hk))
 exact⟨aJu h4 h5,(Rz (Gm h4).1).2⟩
theorem Oi {α:Type} {l:List α} {i:Nat} {d:α}:l.getD i d∈l\/l.getD i d=d:=by
 by_cases h:i<l.length
 ·exact .inl (by rw[getD_at h];exact List.getElem_mem h)
 ·exact .inr (by rw[List.getD_eq_getElem?_getD,List.getElem?_eq_none (by omega)];rfl)
theorem Ry:rJ.small:=by simp [rJ,Ev.small]
theorem aMd (s:Sc) (i k n:Nat) (hs:s.small):(vT s i k n).small:=by
 unfold vT
 split
 ·unfold aGd
  rcases Oi (l:=((cellAt s i (k+1)).getD n ⟨[]⟩).l) (i:=0) (d:=rJ) with h|h
  ·rcases Oi (l:=cellAt s i (k+1)) (i:=n) (d:=(⟨[]⟩:Vo)) with h1|h1
   ·unfold cellAt at h1
    rcases Oi (l:=(partAt s i).cells) (i:=k+1) (d:=([]:List Vo)) with h2|h2
    ·rcases Oi (l:=s.parts) (i:=i) (d:=(⟨⟨#[]⟩,0,0,[],[]⟩:Pa)) with h3|h3
     ·exact(((hs.parts _ h3).voices _ h2).2 _ h1).2 _ h
     ·rw[partAt,h3] at h2;exact absurd h2 (List.not_mem_nil)
    ·rw[h2] at h1;exact absurd h1 (List.not_mem_nil)
   ·rw[h1] at h;exact absurd h (List.not_mem_nil)
  ·rw[h];exact Ry
 ·exact Ry
theorem En {s:Sc} (h:s.bars.length=0\/s.bars.length>100\/s.parts.length=0\/s.parts.length>8):s.checkR=((0,0,0,0),82):=by rw[Sc.checkR,if_pos h]
theorem aJr {s:Sc} {k:Nat} (h: ¬(s.bars.length=0\/s.bars.length>100\/s.parts.length=0\/s.parts.length>8)) (hn:nameB s.title=true) (hk:k<s.bars.length) (he:s.bars[k].errR≠0) (hQ: ∀j,j<k->(xF s j).errR=0):s.checkR=((0,((k:Nat):Int),0,0),s.bars[k].errR):=by
 have hv:xF s k=s.bars[k]:=getD_at hk
 rw[Sc.checkR,if_neg h,if_neg (by rw[hn];decide),pW hk (by rw[hv];simpa using he) (fun j hj=>by simpa using hQ j hj)]
 show((0,((k:Nat):Int),0,0),(xF s k).errR)=_
 rw[hv]
theorem Wu {s:Sc} {i:Nat} (h: ¬(s.bars.length=0\/s.bars.length>100\/s.parts.length=0\/s.parts.length>8)) (hn:nameB s.title=true) (hQ: ∀j,j<s.bars.length->(xF s j).errR=0) (hi:i<s.parts.length) (he:(nU s i).2≠0) (hQ2: ∀j,j<i->(nU s j).2=0):s.checkR=nU s i:=by
 rw[Sc.checkR,if_neg h,if_neg (by rw[hn];decide),mY (fun j hj=>by simpa using hQ j hj)]
 simp only[]
 rw[pW hi (by simpa using he) (fun j hj=>by simpa using hQ2 j hj)]
theorem Za {s:Sc} (h: ¬(s.bars.length=0\/s.bars.length>100\/s.parts.length=0\/s.parts.length>8)) (hn:nameB s.title=true) (hQ: ∀j,j<s.bars.length->(xF s j).errR=0) (hQ2: ∀j,j<s.parts.length->(nU s j).2=0):s.checkR=(match aBd s with
  |some (i,k,v)=>(((i:Nat),(k:Nat),(v:Nat),(((cellAt s i k).getD v ⟨[]⟩).l.length:Int) - 1),71)
  |none=>((0,0,0,0),0)):=by
 rw[Sc.checkR,if_neg h,if_neg (by rw[hn];decide),mY (fun j hj=>by simpa using hQ j hj)]
 simp only[]
 rw[mY (fun j hj=>by simpa using hQ2 j hj)]
 all_goals rfl
theorem lQ (s:Sc) (hs:s.small):PC Tryz.prog gl 16 [s.av] (fun w=>w= .tup [pM s.checkR.1,.int .i64 s.checkR.2]):=by
  have hb:=hs.nbars
  have hq:=hs.nparts
  (refine PC.introY 5 mix (fn:=Tryz.f16) Tryz.func16 rfl (names 16 _ Tryz.func16) fun F hF hro W=>?_;simp only[Tryz.ntmps16,Tryz.results16,aJ,Nat.reduceAdd,Nat.reduceSub])
  repeat' (first
    |simp -implicitDefEqProofs (disch:=first|assumption|omega) only[aA,aC,facts,if_pos,Nat.reduceAdd,Nat.reduceLeDiff,Sc.av, *]
    |((with_reducible refine aF (fun _=>?_) (fun _=>?_))<;>try omega)
    |((with_reducible refine dS (fun _=>?_) (fun _=>?_))<;>try omega)
    |((with_reducible refine iP (fun _=>?_) (fun _=>?_))<;>try omega)
    |((with_reducible refine jV (fun _=>?_) (fun _=>?_))<;>try omega)
    |((with_reducible refine dI 31 ?_);refine PC.useY hF (aIv s.title) (rfl) fun v hv=>?_;subst hv))
  · rename_i h1
    rw[En (.inl (by simpa using h1))];rfl
  · rename_i h1 h2
    rw[En (.inr (.inl (by omega)))];rfl
  · rename_i h1 h2 h3
    rw[En (.inr (.inr (.inl (by simpa using h3))))];rfl
  · rename_i h1 h2 h3 h4
    rw[En (.inr (.inr (.inr (by omega))))];rfl
  rotate_left
  · rename_i h1 h2 h3 h4 h5
    have hl: ¬(s.bars.length=0\/s.bars.length>100\/s.parts.length=0\/s.parts.length>8):=by
      rintro(h|h|h|h);{simp [h] at h1};{omega};{simp [h] at h3};{omega}
    rw[Sc.checkR,if_neg hl,if_pos h5];rfl
  rename_i h1 h2 h3 h4 h5
  have hl: ¬(s.bars.length=0\/s.bars.length>100\/s.parts.length=0\/s.parts.length>8):=by
    rintro(h|h|h|h);{simp [h] at h1};{omega};{simp [h] at h3};{omega}
  have hb100:s.bars.length<=100:=by omega
  have hq8:s.parts.length<=8:=by omega
  clear h1 h2 h3 h4
  refine kJ (fE 118 [1,2,3,47,48,49]) [] 100 s.bars.length (fun k (_:Unit)=>⟨[.ud,.ptr 0 0,.ptr 1 0,.ptr 2 0,.ud,.ud,.ud,.ud,.ud,.ud,.ud,.ud,.ud,.ud,.ud,.ud,.ud,.ud,.ud,.ud,.ud,.ud,.ud,.ud,.ud,.ud,.ud,.ud,.ud,.ud,.ud,.ud,.ud,.ud,.ud,.ud,.ud,.ud,.ud,.ud,.ud,.ud,.ud,.ud,.ud,.ud,.ud,.sl 14 (s.bars.map Ba.av) .none,.int .i64 (s.bars.length:Nat),.int .i64 (k:Nat),.ud,.ud,.ud,.ud,.ud,.ud,.ud,.ud,.ud,.ud,.ud,.ud,.ud,.ud,.ud,.ud,.ud,.ud,.ud,.ud,.ud,.ud,.ud,.ud,.ud,.ud,.ud,.ud,.ud,.ud,.ud,.ud,.ud,.ud,.ud,.ud,.ud,.ud,.ud,.ud,.ud,.ud,.ud,.ud,.ud,.ud,.ud,.ud,.ud,.ud,.ud,.ud,.ud,.ud,.ud,.ud,.ud,.ud,.ud,.ud,.ud,.ud,.ud,.ud,.ud,.ud,.ud,.ud],[]⟩) (fun _ _=>⟨[(2,.cells [.int .i64 0]),(1,.cells [.int .i64 0,.int .i64 0,.int .i64 0,.int .i64 0]),(0,.cells [.str s.title,.sl 14 (s.bars.map Ba.av) .none,.sl 5 (s.parts.map Pa.av) .none])],100⟩) (fun k _=> ∀j,j<k->(xF s j).errR=0) () oL rfl rfl ?_
  rintro k ⟨⟩ hk hQ
  repeat' (first
    |simp -implicitDefEqProofs (disch:=first|assumption|omega) only[aA,aC,facts,if_pos,Nat.reduceAdd,Nat.reduceLeDiff,wrap_in,List.getElem?_eq_getElem,Ba.av, *]
    |((with_reducible refine aF (fun _=>?_) (fun _=>?_))<;>try omega)
    |((with_reducible refine dL (fun _=>?_) (fun _=>?_))<;>try omega)
    |((with_reducible refine dI 32 ?_);refine PC.useY hF (aVt s.bars[k] (hs.bars _ (List.getElem_mem (by omega)))) (rfl) fun v hv=>?_;subst hv))
  · rename_i q1 q2
    rw[aJr hl h5 (by omega) (by simpa using q2) hQ];rfl
  · rename_i q1 q2
    have hk':k<s.bars.length:=by omega
    exact fJ () hk' (lV hQ (by rw[show xF s k=s.bars[k] from getD_at hk'];simpa using q2)) rfl rfl
  rename_i q1
  have hke:k=s.bars.length:=by omega
  subst hke
  refine kJ (fE 118 [1,2,3,63,64,65]) [] 200 s.parts.length (fun i (_:Unit)=>⟨[.ud,.ptr 0 0,.ptr 1 0,.ptr 2 0,.ud,.ud,.ud,.ud,.ud,.ud,.ud,.ud,.ud,.ud,.ud,.ud,.ud,.ud,.ud,.ud,.ud,.ud,.ud,.ud,.ud,.ud,.ud,.ud,.ud,.ud,.ud,.ud,.ud,.ud,.ud,.ud,.ud,.ud,.ud,.ud,.ud,.ud,.ud,.ud,.ud,.ud,.ud,.ud,.ud,.ud,.ud,.ud,.ud,.ud,.ud,.ud,.ud,.ud,.ud,.ud,.ud,.ud,.ud,.sl 5 (s.parts.map Pa.av) .none,.int .i64 (s.parts.length:Nat),.int .i64 (i:Nat),.ud,.ud,.ud,.ud,.ud,.ud,.ud,.ud,.ud,.ud,.ud,.ud,.ud,.ud,.ud,.ud,.ud,.ud,.ud,.ud,.ud,.ud,.ud,.ud,.ud,.ud,.ud,.ud,.ud,.ud,.ud,.ud,.ud,.ud,.ud,.ud,.ud,.ud,.ud,.ud,.ud,.ud,.ud,.ud,.ud,.ud,.ud,.ud,.ud,.ud,.ud,.ud],[]⟩) (fun _ _=>⟨[(2,.cells [.int .i64 0]),(1,.cells [.int .i64 0,.int .i64 0,.int .i64 0,.int .i64 0]),(0,.cells [.str s.title,.sl 14 (s.bars.map Ba.av) .none,.sl 5 (s.parts.map Pa.av) .none])],200⟩) (fun i _=> ∀j,j<i->(nU s j).2=0) () oL rfl rfl ?_
  rintro i ⟨⟩ hi hQ2
  by_cases hil:i<s.parts.length
  · have hpi:partAt s i=s.parts[i]:=getD_at hil
    have e1:s.parts[i]?=some s.parts[i]:=List.getElem?_eq_getElem hil
    have hps:=hs.parts _ (List.getElem_mem hil)
    generalize hpp:s.parts[i]=p at hpi e1 hps
    by_cases hr:p.right s.bars.length=true
    · have hr':=hr
      simp only[Pa.right,Bool.and_eq_true,decide_eq_true_eq] at hr'
      obtain⟨_,_,hc,hd⟩:=hr'
      have hpe:nU s i=xR s i:=by rw[nU,hpi,if_pos hr]
      repeat' (first
    |simp -implicitDefEqProofs (disch:=first|assumption|omega) only[aA,aC,facts,if_pos,Nat.reduceAdd,Nat.reduceLeDiff,Int.reduceBNe,wrap_in,e1,Pa.av,hr,pM,qU, *]
    |((with_reducible refine aF (fun _=>?_) (fun _=>?_))<;>try omega)
    |((with_reducible refine dL (fun _=>?_) (fun _=>?_))<;>try omega)
    |((with_reducible refine dI 33 ?_);refine PC.useY hF (aC3 p s.bars.length) (rfl) fun v hv=>?_;subst hv)
    | ((with_reducible refine dI 34 ?_);refine PC.useY hF (cells_ok s i p e1 hb hs.bars (by omega) (by omega) hps) (rfl) fun v hv=>?_;subst hv))
      · rename_i q1 q2
        rw[Wu hl h5 (fun j hj=>hQ j hj) hil (by rw[hpe];simpa using q2) hQ2,hpe]
      · rename_i q1 q2
        exact fJ () hil (lV hQ2 (by rw[hpe];simpa using q2)) rfl rfl
    · have hpe:nU s i=((((i:Nat):Int),0,0,0),80):=by rw[nU,hpi,if_neg hr]
      repeat' (first
    |simp -implicitDefEqProofs (disch:=first|assumption|omega) only[aA,aC,facts,if_pos,Nat.reduceAdd,Nat.reduceLeDiff,Int.reduceBNe,e1,Pa.av,hr, *]
    |((with_reducible refine aF (fun _=>?_) (fun _=>?_))<;>try omega)
    | ((with_reducible refine dI 33 ?_);refine PC.useY hF (aC3 p s.bars.length) (rfl) fun v hv=>?_;subst hv))
      rw[Wu hl h5 (fun j hj=>hQ j hj) hil (by rw[hpe];show(80:Int)≠0;decide) hQ2,hpe];rfl
  · repeat' (first
    |simp -implicitDefEqProofs (disch:=first|assumption|omega) only[aA,aC,facts,if_pos,Nat.reduceAdd, *]
    |((with_reducible refine aF (fun _=>?_) (fun _=>?_))<;>try omega))
    (refine Ti hF hro mix names 2 (fn:=Tryz.f35) Tryz.func35 rfl ?_;simp only[Tryz.ntmps35,Tryz.results35,aJ,Nat.reduceAdd,Nat.reduceSub])
    repeat' (simp -implicitDefEqProofs (disch:=first|assumption|omega) only[aA,aC,Nat.reduceAdd,aBn, *])
    have hie:i=s.parts.length:=by omega
    subst hie
    refine aN6 79 [] [.ptr 202 0] rfl (by simp only[Fz,Tryz.func79];rfl) ?_
    intro ca cb hAs hBo
    (refine Ti hF hro mix names 7 (fn:=Tryz.f79) Tryz.func79 rfl ?_;simp only[Tryz.ntmps79,Tryz.results79,aJ,Nat.reduceAdd,Nat.reduceSub])
    repeat' (simp -implicitDefEqProofs (disch:=first|assumption|omega) only[aA,aC,facts,if_pos,Nat.reduceAdd,Nat.reduceLeDiff, *])
    refine kJ (fE 43 [0,10,11,12]) [] 300 s.parts.length (fun i (_:Unit)=>⟨[.yld 207,.ud,.ud,.ud,.ud,.ud,.ud,.ud,.ud,.ud,.sl 5 (s.parts.map Pa.av) .none,.int .i64 (s.parts.length:Nat),.int .i64 (i:Nat),.ud,.ud,.ud,.ud,.ud,.ud,.ud,.ud,.ud,.ud,.ud,.ud,.ud,.ud,.ud,.ud,.ud,.ud,.ud,.ud,.ud,.ud,.ud,.ud,.ud,.ud,.ud,.ud,.ud,.ud],[]⟩) (fun _ _=>⟨[(207,.loop .ready none [.ud,.ptr 0 0,.ptr 1 0,.ptr 2 0,.ud,.ud,.ud,.ud,.ud,.ud,.ud,.ud,.ud,.ud,.ud,.ud,.ud,.ud,.ud,.ud,.ud,.ud,.ud,.ud,.ud,.ud,.ud,.ud,.ud,.ud,.ud,.ud,.ud,.ud,.ud,.ud,.ud,.ud,.ud,.ud,.ud,.ud,.ud,.ud,.ud,.ud,.ud,.ud,.ud,.ud,.ud,.ud,.ud,.ud,.ud,.ud,.ud,.ud,.ud,.ud,.ud,.ud,.ud,.sl 5 (s.parts.map Pa.av) .none,.int .i64 (s.parts.length:Nat),.int .i64 (s.parts.length:Nat),.bool false,.ud,.ud,.ud,.ud,.ud,.ud,.ud,.ud,.ud,.ud,.ud,.ud,.ud,.ud,.ud,.ud,.ud,.ud,.ud,.ud,.ud,.ud,.ud,.ud,.agg [.str s.title,.sl 14 (s.bars.map Ba.av) .none,.sl 5 (s.parts.map Pa.av) .none],.fn 79 [] [.ptr 202 0],.ud,.ud,.ud,.ud,.ud,.ud,.ud,.ud,.ud,.ud,.ud,.ud,.ud,.ud,.ud,.ud,.ud,.ud,.ud,.ud,.ud,.ud,.ud,.ud,.ud] #[93,94] ca cb 206),(206,.dfd true),(202,.cells [.str s.title,.sl 14 (s.bars.map Ba.av) .none,.sl 5 (s.parts.map Pa.av) .none]),(2,.cells [.int .i64 0]),(1,.cells [.int .i64 0,.int .i64 0,.int .i64 0,.int .i64 0]),(0,.cells [.str s.title,.sl 14 (s.bars.map Ba.av) .none,.sl 5 (s.parts.map Pa.av) .none])],300⟩) (fun i _=> ∀j,j<i->aBc s j=none) () oL ?_ ?_ ?_
    · rfl
    · rfl
    rintro i ⟨⟩ hi hQ3
    by_cases hil:i<s.parts.length
    · have hpi:partAt s i=s.parts[i]:=getD_at hil
      have e1:s.parts[i]?=some s.parts[i]:=List.getElem?_eq_getElem hil
      have hps:=hs.parts _ (List.getElem_mem hil)
      generalize hpp:s.parts[i]=p at hpi e1 hps
      have hpe:=hQ2 i hil
      have hr:=(zO hpe).1
      rw[hpi] at hr
      simp only[Pa.right,Bool.and_eq_true,decide_eq_true_eq] at hr
      obtain⟨_,_,hc,hd⟩:=hr
      have hc':p.cells.length=s.bars.length:=by omega
      repeat' (first
    |simp -implicitDefEqProofs (disch:=first|assumption|omega) only[aA,aC,facts,if_pos,Nat.reduceAdd,Nat.reduceLeDiff,e1,Pa.av, *]
    | ((with_reducible refine aF (fun _=>?_) (fun _=>?_))<;>try omega))
      refine kJ (fE 43 [0,3,10,11,12,18,19,20]) [] 400 s.bars.length (fun k (_:Unit)=>⟨[.yld 207,.ud,.ud,.int .i64 (i:Nat),.ud,.ud,.ud,.ud,.ud,.ud,.sl 5 (s.parts.map Pa.av) .none,.int .i64 (s.parts.length:Nat),.int .i64 (i:Nat),.ud,.ud,.ud,.ud,.ud,.sl 1 (p.cells.map bU) .none,.int .i64 (s.bars.length:Nat),.int .i64 (k:Nat),.ud,.ud,.ud,.ud,.ud,.ud,.ud,.ud,.ud,.ud,.ud,.ud,.ud,.ud,.ud,.ud,.ud,.ud,.ud,.ud,.ud,.ud],[]⟩) (fun _ _=>⟨[(304,.cells [.str p.name,.int .i64 p.clef,.int .i64 p.channel,.sl 1 (p.cells.map bU) .none,.sl 1 (p.dyns.map eP) .none]),(207,.loop .ready none [.ud,.ptr 0 0,.ptr 1 0,.ptr 2 0,.ud,.ud,.ud,.ud,.ud,.ud,.ud,.ud,.ud,.ud,.ud,.ud,.ud,.ud,.ud,.ud,.ud,.ud,.ud,.ud,.ud,.ud,.ud,.ud,.ud,.ud,.ud,.ud,.ud,.ud,.ud,.ud,.ud,.ud,.ud,.ud,.ud,.ud,.ud,.ud,.ud,.ud,.ud,.ud,.ud,.ud,.ud,.ud,.ud,.ud,.ud,.ud,.ud,.ud,.ud,.ud,.ud,.ud,.ud,.sl 5 (s.parts.map Pa.av) .none,.int .i64 (s.parts.length:Nat),.int .i64 (s.parts.length:Nat),.bool false,.ud,.ud,.ud,.ud,.ud,.ud,.ud,.ud,.ud,.ud,.ud,.ud,.ud,.ud,.ud,.ud,.ud,.ud,.ud,.ud,.ud,.ud,.ud,.ud,.agg [.str s.title,.sl 14 (s.bars.map Ba.av) .none,.sl 5 (s.parts.map Pa.av) .none],.fn 79 [] [.ptr 202 0],.ud,.ud,.ud,.ud,.ud,.ud,.ud,.ud,.ud,.ud,.ud,.ud,.ud,.ud,.ud,.ud,.ud,.ud,.ud,.ud,.ud,.ud,.ud,.ud,.ud] #[93,94] ca cb 206),(206,.dfd true),(202,.cells [.str s.title,.sl 14 (s.bars.map Ba.av) .none,.sl 5 (s.parts.map Pa.av) .none]),(2,.cells [.int .i64 0]),(1,.cells [.int .i64 0,.int .i64 0,.int .i64 0,.int .i64 0]),(0,.cells [.str s.title,.sl 14 (s.bars.map Ba.av) .none,.sl 5 (s.parts.map Pa.av) .none])],400⟩) (fun k _=> ∀j,j<k->aBb s i j=none) () oL rfl rfl ?_
      rintro k ⟨⟩ hk hQ4
      by_cases hkl:k<s.bars.length
      · have hck:cellAt s i k=p.cells[k]:=by rw[cellAt,hpi];exact getD_at (by omega)
        have hvs:=hps.voices _ (List.getElem_mem (show k<p.cells.length by omega))
        have e2:p.cells[k]?=some p.cells[k]:=List.getElem?_eq_getElem (by omega)
        have hfull:=fun n hn=>Jy (n:=n) (fun j hj=>hQ j hj) hpe hkl hn
        rw[hck] at hfull
        generalize hcc:p.cells[k]=c at hck hvs e2 hfull
        have hvl:=hvs.1
        repeat' (first
    |simp -implicitDefEqProofs (disch:=first|assumption|omega) only[aA,aC,facts,Nat.reduceAdd,wrap_in,e2,bU, *]
    | ((with_reducible refine aF (fun _=>?_) (fun _=>?_))<;>try omega))
        refine kJ (fE 43 [0,3,5,10,11,12,18,19,20,25,26,27]) [] 500 c.length (fun n (_:Unit)=>⟨[.yld 207,.ud,.ud,.int .i64 (i:Nat),.ud,.int .i64 (k:Nat),.ud,.ud,.ud,.ud,.sl 5 (s.parts.map Pa.av) .none,.int .i64 (s.parts.length:Nat),.int .i64 (i:Nat),.ud,.ud,.ud,.ud,.ud,.sl 1 (p.cells.map bU) .none,.int .i64 (s.bars.length:Nat),.int .i64 (k:Nat),.ud,.ud,.ud,.ud,.sl 1 (c.map Vo.av) .none,.int .i64 (c.length:Nat),.int .i64 (n:Nat),.ud,.ud,.ud,.ud,.ud,.ud,.ud,.ud,.ud,.ud,.ud,.ud,.ud,.ud,.ud],[]⟩) (fun _ _=>⟨[(304,.cells [.str p.name,.int .i64 p.clef,.int .i64 p.channel,.sl 1 (p.cells.map bU) .none,.sl 1 (p.dyns.map eP) .none]),(207,.loop .ready none [.ud,.ptr 0 0,.ptr 1 0,.ptr 2 0,.ud,.ud,.ud,.ud,.ud,.ud,.ud,.ud,.ud,.ud,.ud,.ud,.ud,.ud,.ud,.ud,.ud,.ud,.ud,.ud,.ud,.ud,.ud,.ud,.ud,.ud,.ud,.ud,.ud,.ud,.ud,.ud,.ud,.ud,.ud,.ud,.ud,.ud,.ud,.ud,.ud,.ud,.ud,.ud,.ud,.ud,.ud,.ud,.ud,.ud,.ud,.ud,.ud,.ud,.ud,.ud,.ud,.ud,.ud,.sl 5 (s.parts.map Pa.av) .none,.int .i64 (s.parts.length:Nat),.int .i64 (s.parts.length:Nat),.bool false,.ud,.ud,.ud,.ud,.ud,.ud,.ud,.ud,.ud,.ud,.ud,.ud,.ud,.ud,.ud,.ud,.ud,.ud,.ud,.ud,.ud,.ud,.ud,.ud,.agg [.str s.title,.sl 14 (s.bars.map Ba.av) .none,.sl 5 (s.parts.map Pa.av) .none],.fn 79 [] [.ptr 202 0],.ud,.ud,.ud,.ud,.ud,.ud,.ud,.ud,.ud,.ud,.ud,.ud,.ud,.ud,.ud,.ud,.ud,.ud,.ud,.ud,.ud,.ud,.ud,.ud,.ud] #[93,94] ca cb 206),(206,.dfd true),(202,.cells [.str s.title,.sl 14 (s.bars.map Ba.av) .none,.sl 5 (s.parts.map Pa.av) .none]),(2,.cells [.int .i64 0]),(1,.cells [.int .i64 0,.int .i64 0,.int .i64 0,.int .i64 0]),(0,.cells [.str s.title,.sl 14 (s.bars.map Ba.av) .none,.sl 5 (s.parts.map Pa.av) .none])],500⟩) (fun n _=> ∀j,j<n->La s i k j=false) () oL rfl rfl ?_
        rintro n ⟨⟩ hn hQ5
        repeat' (first
    |simp -implicitDefEqProofs (disch:=first|assumption|omega) only[aA,aC,facts,if_pos,Nat.reduceAdd,Nat.reduceLeDiff,wrap_in,List.getElem?_eq_getElem,Vo.av, *]
    |with_reducible refine kT ?_
    | ((with_reducible refine aF (fun _=>?_) (fun _=>?_))<;>try omega))
        · rename_i hnl
          have hn':n<c.length:=by omega
          obtain⟨w,hw⟩: ∃w,c[n]=w:=⟨_,rfl⟩
          have hwf:=hfull n hn'
          have hws:=hvs.2 _ (List.getElem_mem hn')
          rw[hw] at hwf hws
          simp only[hw]
          unfold l7
          rw[aHk]
          refine aQ0 (pd:=none) (ps:= #[93,94]) (ca:=ca) (bo:=cb) (kd:=206) (s:=[.ud,.ptr 0 0,.ptr 1 0,.ptr 2 0,.ud,.ud,.ud,.ud,.ud,.ud,.ud,.ud,.ud,.ud,.ud,.ud,.ud,.ud,.ud,.ud,.ud,.ud,.ud,.ud,.ud,.ud,.ud,.ud,.ud,.ud,.ud,.ud,.ud,.ud,.ud,.ud,.ud,.ud,.ud,.ud,.ud,.ud,.ud,.ud,.ud,.ud,.ud,.ud,.ud,.ud,.ud,.ud,.ud,.ud,.ud,.ud,.ud,.ud,.ud,.ud,.ud,.ud,.ud,.sl 5 (s.parts.map Pa.av) .none,.int .i64 (s.parts.length:Nat),.int .i64 (s.parts.length:Nat),.bool false,.ud,.ud,.ud,.ud,.ud,.ud,.ud,.ud,.ud,.ud,.ud,.ud,.ud,.ud,.ud,.ud,.ud,.ud,.ud,.ud,.ud,.ud,.ud,.ud,.agg [.str s.title,.sl 14 (s.bars.map Ba.av) .none,.sl 5 (s.parts.map Pa.av) .none],.fn 79 [] [.ptr 202 0],.ud,.ud,.ud,.ud,.ud,.ud,.ud,.ud,.ud,.ud,.ud,.ud,.ud,.ud,.ud,.ud,.ud,.ud,.ud,.ud,.ud,.ud,.ud,.ud,.ud]) rfl rfl ?_
          cases hAs.eq
          cases hBo.eq
          repeat' (simp -implicitDefEqProofs (disch:=first|assumption|omega) only[aA,aC,facts,Nat.reduceAdd,Bl.eq_1,aN7, *])
          rw[aFq rfl]
          have hlast:w.l.length - 1<w.l.length:=by omega
          have hbeh:=aO6 s i k n 0 hil hb hkl (by rw[hpi];exact hc') (by omega) (fun u hu=>by
            by_cases hk1:k+1<s.bars.length
            · obtain⟨m,hm,rfl⟩:=List.mem_iff_getElem.1 hu
              exact(Jy (fun j hj=>hQ j hj) hpe hk1 hm).1
            · rw[cellAt,List.getD_eq_getElem?_getD,List.getElem?_eq_none (by rw[hpi];omega)] at hu
              exact absurd hu (List.not_mem_nil))
          have hsm:=hws.2 _ (List.getElem_mem hlast)
          have hti:=aJt (hwf.2 _ (List.getElem_mem hlast))
          have elast:w.l[w.l.length - 1]?=some w.l[w.l.length - 1]:=List.getElem?_eq_getElem hlast
          have hwl:=hws.1
          have htb:La s i k n=!zZ (w.l[w.l.length - 1]) (vT s i k n) (tV s i k n):=by
            have q1:c.getD n ⟨[]⟩=w:=by rw[getD_at hn',hw]
            rw[La,aGd,hck,q1,getD_at hlast]
          generalize w.l[w.l.length - 1]=e at hsm hti elast htb
          have hnx:=aMd s i k n hs
          generalize vT s i k n=nx at hnx hbeh htb
          generalize tV s i k n=hx at hbeh htb
          repeat' (first
    |simp -implicitDefEqProofs (disch:=first|assumption|omega) only[aA,aC,facts,if_pos,Nat.reduceAdd,Nat.reduceLeDiff,wrap_in,hput.eq_def,Ev.av,elast,Fg, *]
    |((with_reducible refine jR 37 ?_);refine dK (aRl e nx hx hsm hnx hti) (rfl) ?_)
    |((with_reducible refine dS (fun _=>?_) (fun _=>?_))<;>try omega)
    |((with_reducible refine fQ ?_);refine gZ _ rfl (by decide+kernel) ?_)
    | ((with_reducible refine dI 36 ?_);refine PC.useY hF hbeh (rfl) fun v hv=>?_;subst hv))
          · rename_i hld
            rw[aD0 rfl]
            repeat' (simp -implicitDefEqProofs (disch:=first|assumption|omega) only[aA,aC,Nat.reduceAdd,wrap_in,hput.eq_def, *])
            exact fJ () hn' (lV hQ5 (by rw[htb,hld];rfl)) rfl rfl
          · rename_i hld
            have hbad:La s i k n=true:=by rw[htb,hld];rfl
            have htk:aBb s i k=some n:=by rw[aBb,hck];exact pW hn' hbad hQ5
            have hti2:aBc s i=some (k,n):=by rw[aBc,pW hkl (by rw[htk];rfl) (fun j hj=>by rw[hQ4 j hj];rfl)];simp only[Option.bind_some,htk,Option.map_some]
            have hts:aBd s=some (i,k,n):=by rw[aBd,pW hil (by rw[hti2];rfl) (fun j hj=>by rw[hQ3 j hj];rfl)];simp only[Option.bind_some,hti2,Option.map_some]
            have hlw:((cellAt s i k).getD n ⟨[]⟩).l.length=w.l.length:=by rw[hck,getD_at hn',hw]
            have hchk:s.checkR=((((i:Nat):Int),((k:Nat):Int),((n:Nat):Int),(w.l.length:Int) - 1),71):=by rw[Za hl h5 (fun j hj=>hQ j hj) (fun j hj=>hQ2 j (by omega)),hts];simp only[hlw]
            rw[aK2 rfl]
            repeat' (simp -implicitDefEqProofs (disch:=first|assumption|omega) only[aA,aC,Nat.reduceAdd,hput.eq_def, *])
            rw[aKz rfl]
            rw[Zk,aE7]
            simp -implicitDefEqProofs only[Dw.eq_def,hdel.eq_1,hdel.eq_2,Nat.reduceAdd,Nat.reduceEqDiff,if_true,if_false]
            rw[Zv rfl]
            repeat' (simp -implicitDefEqProofs (disch:=first|assumption|omega) only[aA,aC,facts,if_pos,if_neg,Nat.reduceAdd,Nat.reduceEqDiff,hset.eq_def, *])
            rfl
        · rename_i hnl
          have hne:n=c.length:=by omega
          exact fJ () hkl (lV hQ4 (by rw[aBb,hck];exact mY fun j hj=>hQ5 j (by omega))) rfl rfl
      · repeat' (first
    |simp -implicitDefEqProofs (disch:=first|assumption|omega) only[aA,aC,facts,Nat.reduceAdd,wrap_in, *]
    | ((with_reducible refine aF (fun _=>?_) (fun _=>?_))<;>try omega))
        exact fJ () hil (lV hQ3 (by rw[aBc,mY fun j hj=>by rw[hQ4 j (by omega)];rfl];rfl)) rfl rfl
    · repeat' (first
    |simp -implicitDefEqProofs (disch:=first|assumption|omega) only[aA,aC,facts,Nat.reduceAdd, *]
    | ((with_reducible refine aF (fun _=>?_) (fun _=>?_))<;>try omega))
      have hte:aBd s=none:=by rw[aBd,mY fun j hj=>by rw[hQ3 j (by omega)];rfl];rfl
      have hchk:s.checkR=((0,0,0,0),0):=by rw[Za hl h5 (fun j hj=>hQ j hj) (fun j hj=>hQ2 j (by omega)),hte]
      rw[aHj rfl]
      repeat' (simp -implicitDefEqProofs (disch:=first|assumption|omega) only[aA,aC,facts,if_pos,if_neg,Nat.reduceAdd,Nat.reduceEqDiff,Dw.eq_def, *])
      rw[Zv rfl]
      repeat' (simp -implicitDefEqProofs (disch:=first|assumption|omega) only[aA,aC,facts,if_pos,if_neg,Nat.reduceAdd,Nat.reduceEqDiff,hset.eq_def, *])
      rfl
end Go.Proofs.Pv
