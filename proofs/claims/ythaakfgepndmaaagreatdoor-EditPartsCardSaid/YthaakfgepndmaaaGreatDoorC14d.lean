/-
Layer 9's reference: are some edits few, and small?
Conditions: none but those that each statement names.
-/
import Derived.Test.YthaakfgepndmaaaGreatDoorC14a
import Derived.Test.YthaakfgepndmaaaGreatDoorC12
set_option linter.unusedVariables false
set_option linter.unusedSimpArgs false
set_option maxRecDepth 100000
set_option maxHeartbeats 16000000
namespace Go.Proofs.Pv
open Go Go.Proofs
theorem getOp {l:List aJ} {i:Nat} (h:i<l.length):l[i]?=some l[i]:=List.getElem?_eq_getElem h
def Gp (l:List aJ):Bool:=Ce 6 aJ.fewB l
theorem aCo (l:List aJ):PC Tryz.prog gl 6 [vT l] (fun v=>v= .bool (Gp l)):=by
 unfold vT
 (refine PC.introZ 1 mix (fn:=Tryz.f6) Tryz.func6 rfl (names 6 _ Tryz.func6) fun F hF hro W=>?_;simp only[Tryz.ntmps6,Tryz.results6,aI,Nat.reduceAdd,Nat.reduceSub])
 repeat' (simp -implicitDefEqProofs only[aA,aC,Nat.reduceAdd, *])
 refine lF (fD 23 [0,3]) [] 100 7 (fun i (_:Unit)=>⟨[.sl 13 (l.map aJ.av) .none,.ud,.ud,.int .i64 (i:Nat),.ud,.ud,.ud,.ud,.ud,.ud,.ud,.ud,.ud,.ud,.ud,.ud,.ud,.ud,.ud,.ud,.ud,.ud,.ud],[]⟩) (fun _ _=>⟨[],100⟩) (fun i _=>upTo aJ.fewB l i) () qR rfl rfl ?_
 rintro i x hi hQ
 repeat' (first
  |simp -implicitDefEqProofs only[↓reduceIte,aA,aC,facts,Nat.reduceAdd, *]
  |simp -implicitDefEqProofs (disch:=first|assumption|omega) only[aA,aC,facts,if_pos,Nat.reduceAdd,wrap_in,getOp,aJ.av, *]
  |((with_reducible refine aF (fun _=>?_) (fun _=>?_))<;>try omega)
  |((with_reducible refine dQ (fun _=>?_) (fun _=>?_))<;>try omega)
  |((with_reducible refine jA (fun _=>?_) (fun _=>?_))<;>try omega)
  |((with_reducible refine aS 14 ?_);refine PC.useZ hF (aPs _) (rfl) fun v hv=>?_;subst hv))
 ·rename_i h1 h2 h3
  exact jZ () (by omega) (qU hQ (by omega) h3) rfl rfl
 ·rename_i h1 h2 h3
  rw[Gp,zQ (by omega) h3]
 ·rename_i h1 h2
  rw[Gp,wJ (.inr (by omega)) hQ];rfl
 ·rename_i h1
  rw[Gp,wJ (.inl (by omega)) hQ];rfl
theorem aNx (s:Sc) (l:List aJ) (m:Nat) (hup:PC Tryz.prog gl 4 [] (fun v=>v= .bool true)) (h: ¬(s.fewB=true/\Gp l=true)):PC Tryz.prog gl 3 [s.av,vT l,.int .u8 (m:Nat)] (fun v=>v= .bool true):=by
 have hfo:=aCo l
 unfold vT at hfo ⊢
 (refine PC.introZ 2 mix (fn:=Tryz.f3) Tryz.func3 rfl (names 3 _ Tryz.func3) fun F hF hro W=>?_;simp only[Tryz.ntmps3,Tryz.results3,aI,Nat.reduceAdd,Nat.reduceSub])
 repeat' (first
  |simp -implicitDefEqProofs only[↓reduceIte,aA,aC,facts,Nat.reduceAdd,Sc.av, *]
  |with_reducible refine kD ?_
  |((with_reducible refine dQ (fun _=>?_) (fun _=>?_))<;>try omega)
  |((with_reducible refine jP (fun _=>?_) (fun _=>?_))<;>try omega)
  |((with_reducible refine aS 4 ?_);refine PC.useZ hF hup (rfl) fun v hv=>?_;subst hv)
  |((with_reducible refine aS 5 ?_);refine PC.useZ hF (aEt s) (rfl) fun v hv=>?_;subst hv)
  |((with_reducible refine aS 6 ?_);refine PC.useZ hF hfo (rfl) fun v hv=>?_;subst hv))
 all_goals (exfalso;simp_all;done)
theorem parts_all (s:Sc) (l:List aJ) (m:Nat) (hup:PC Tryz.prog gl 4 [] (fun v=>v= .bool true)) (h1:s.fewB=true) (h2:Gp l=true) (hm:m<=255) (hn:l.length<=6) (k:Nat) (hk:m % (l.length+1)=k) (r r1 r2:RunA) (hr:PC Tryz.prog gl 7 [s.av,vT l] (fun v=>v=xK r)) (hr1:PC Tryz.prog gl 7 [s.av,vT (l.take k)] (fun v=>v=xK r1)) (hr2:r1.1=0->PC Tryz.prog gl 7 [r1.2.1.av,vT (l.drop k)] (fun v=>v=xK r2))
  (hsame:PC Tryz.prog gl 8 [r2.2.1.av,r2.2.1.av] (fun v=>v= .bool true))
  (h:(r1.1≠0/\r.1=r1.1/\r.2.2.2=r1.2.2.2)\/(r1.1=0/\r.1=r2.1/\r.2.1=r2.2.1/\r.2.2.2=r1.2.2.2+r2.2.2.2/\r1.2.2.2<=10/\r2.2.2.2<=10)):PC Tryz.prog gl 3 [s.av,vT l,.int .u8 (m:Nat)] (fun v=>v= .bool true):=by
 have hfo:=aCo l
 have hw1:IntKind.i64.wrap (m:Int)=(m:Int):=wrap_in (by omega)
 have hw2:IntKind.i64.wrap ((l.length:Int)+1)=(l.length:Int)+1:=wrap_in (by omega)
 have hk1:(m:Int).tmod ((l.length:Int)+1)=(k:Int):=by rw[<-hk];rfl
 have hkl:k<=l.length:=by have:=Nat.mod_lt m (show 0<l.length+1 by omega);omega
 have hkl2:(k:Int)<=(l.length:Int):=by omega
 have hw3:IntKind.i64.wrap (k:Int)=(k:Int):=wrap_in (by omega)
 have hq: ¬((l.length:Int)+1=0):=by omega
 rcases h with⟨he,h3,h4⟩|⟨he,h3,h4,h5,h6,h7⟩
 ·unfold vT at hfo hr hr1 ⊢
  clear hr2 hsame
  have he1:(r1.1 !=0)=true:=by simpa using he
  obtain⟨e,t,b,n⟩:=r
  obtain⟨e1,t1,b1,n1⟩:=r1
  simp only[xK,List.map_take] at*
  subst h3;subst h4
  (refine PC.introZ 2 mix (fn:=Tryz.f3) Tryz.func3 rfl (names 3 _ Tryz.func3) fun F hF hro W=>?_;simp only[Tryz.ntmps3,Tryz.results3,aI,Nat.reduceAdd,Nat.reduceSub])
  repeat' (first
  |simp -implicitDefEqProofs only[↓reduceIte,aA,aC,facts,Nat.reduceAdd,Nat.reduceEqDiff,Int.reduceLE,Sc.av,Option.map_none,bnd,reduceCtorEq,bF,aT,aU,cZ,aW, *]
  |((with_reducible refine dE 7 ?_);refine bU hr1 (rfl) ?_)
  |((with_reducible refine aN ?_);refine bI (by decide+kernel) ?_)
  |((with_reducible refine Uw ?_);kernel_rfl)
  |((with_reducible refine aS 4 ?_);refine PC.useZ hF hup (rfl) fun v hv=>?_;subst hv)
  |((with_reducible refine aS 5 ?_);refine PC.useZ hF (aEt s) (rfl) fun v hv=>?_;subst hv)
  |((with_reducible refine aS 6 ?_);refine PC.useZ hF hfo (rfl) fun v hv=>?_;subst hv)
  |((with_reducible refine aS 7 ?_);refine PC.useZ hF hr (rfl) fun v hv=>?_;subst hv))
 ·replace hr2:=hr2 he
  unfold vT at hfo hr hr1 hr2 ⊢
  obtain⟨e,t,b,n⟩:=r
  obtain⟨e1,t1,b1,n1⟩:=r1
  obtain⟨e2,t2,b2,n2⟩:=r2
  simp only[xK,List.map_take,List.map_drop] at*
  subst h3;subst h4;subst h5;subst he
  have htk:List.take l.length (l.map aJ.av)=l.map aJ.av:=List.take_of_length_le (by rw[List.length_map];exact Nat.le_refl _)
  have hw4:IntKind.i64.wrap ((n1:Int)+(n2:Int))=((n1+n2:Nat):Int):=by rw[wrap_in (by omega)];rfl
  (refine PC.introZ 2 mix (fn:=Tryz.f3) Tryz.func3 rfl (names 3 _ Tryz.func3) fun F hF hro W=>?_;simp only[Tryz.ntmps3,Tryz.results3,aI,Nat.reduceAdd,Nat.reduceSub])
  repeat' (first
  |simp -implicitDefEqProofs only[↓reduceIte,aA,aC,facts,Nat.reduceAdd,Nat.reduceEqDiff,Int.reduceBNe,Sc.av,Option.map_none,bnd,reduceCtorEq,ite_self,Int.le_refl,bF,aT,aU,cZ,aW, *]
  |((with_reducible refine dE 7 ?_);refine bU hr1 (rfl) ?_)
  |((with_reducible refine dE 7 ?_);refine bU hr2 (rfl) ?_)
  |((with_reducible refine aN ?_);refine bI (by decide+kernel) ?_)
  |((with_reducible refine dN ?_ ?_);· decide+kernel)
  |((with_reducible refine aS 4 ?_);refine PC.useZ hF hup (rfl) fun v hv=>?_;subst hv)
  |((with_reducible refine aS 5 ?_);refine PC.useZ hF (aEt s) (rfl) fun v hv=>?_;subst hv)
  |((with_reducible refine aS 6 ?_);refine PC.useZ hF hfo (rfl) fun v hv=>?_;subst hv)
  |((with_reducible refine aS 7 ?_);refine PC.useZ hF hr (rfl) fun v hv=>?_;subst hv)
  |((with_reducible refine aS 8 ?_);refine PC.useZ hF hsame (rfl) fun v hv=>?_;subst hv))
theorem aUj {d:Nat} {cs:List AV} (h:okV Tryz.prog (d+1) 5 cs): ∃n:Nat,cs=[.int .u8 (n:Nat)]/\n<=255:=by
 simp only[okV,Tryz.underlying5] at h
 obtain⟨n,rfl,hw⟩:=h
 have e1:IntKind.u8.min=0:=rfl
 have e2:IntKind.u8.max=255:=rfl
 simp only[Lit.wf,Bool.and_eq_true,decide_eq_true_eq,e1,e2] at hw
 exact⟨n.toNat,by rw[Int.toNat_of_nonneg hw.1],by omega⟩
theorem aSf {d:Nat} {cs:List AV} (h:okV Tryz.prog (d+11) 26 cs): ∃l:List aJ,cs=[vT l]/\ ∀o∈l,o.typed/\o.typedB:=by
 obtain⟨rows,rfl,_,hr⟩:=kN Tryz.underlying26 h
 obtain⟨l,rfl,hq⟩:=nN (f:=aJ.av) (Q:=fun a:aJ=>a.typed/\a.typedB) rows fun r hr'=>by
  obtain⟨c,rfl,hk⟩:=hr r hr'
  obtain⟨a,e1,q1⟩:=aS4 hk
  exact⟨a,by rw[e1];simp only[mkRow,ag50,if_true];rfl,q1⟩
 exact⟨l,by rw[show Tryz.prog.cellsOf 50=13 from by kernel_rfl];rfl,hq⟩
theorem aL7 (s:Sc) (l:List aJ) (m:Nat) (hup:PC Tryz.prog gl 4 [] (fun v=>v= .bool true)) (ts:s.typed) (to: ∀o∈l,o.typed/\o.typedB) (hm:m<=255):PC Tryz.prog gl 3 [s.av,vT l,.int .u8 (m:Nat)] (fun v=>v= .bool true):=by
 by_cases hf:s.fewB=true/\Gp l=true
 rotate_left
 ·exact aNx s l m hup hf
 obtain⟨h1,h2⟩:=hf
 have hs:=Xt ts h1
 obtain⟨hn,h3⟩:=wC h2
 have hl: ∀o∈l,o.fine:=fun o ho=>aTn (to o ho).1 (to o ho).2 (h3 o ho)
 have hlk: ∀k,∀o∈l.take k,o.fine:=fun k o ho=>hl o (List.mem_of_mem_take ho)
 have hld: ∀k,∀o∈l.drop k,o.fine:=fun k o ho=>hl o (List.mem_of_mem_drop ho)
 obtain⟨k,hk⟩: ∃k,m % (l.length+1)=k:=⟨_,rfl⟩
 have r1:=Ll s (l.take k) hs (hlk k)
 have n1:=aBl s (l.take k)
 have n2:=aBl (eP s (l.take k)).2.1 (l.drop k)
 have k1:(l.take k).length<=6:=by rw[List.length_take];omega
 have k2:(l.drop k).length<=6:=by rw[List.length_drop];omega
 have hu:(eP s (l.take k)).2.1.fine:=by
  by_cases h:(eP s (l.take k)).1=0
  ·exact(r1.ok h).1
  ·rw[(r1.no h).1];exact aIt
 refine parts_all s l m hup h1 h2 hm hn k hk (eP s l) (eP s (l.take k)) (eP (eP s (l.take k)).2.1 (l.drop k)) (Vb s l hs hl (by omega)) (Vb s _ hs (hlk k) (by omega)) (fun _=>Vb _ _ hu (hld k) (by omega)) (Ll _ _ hu (hld k)).same ?_
 rcases run_parts s l k hs hl with h|⟨q1,q2,q3,q4⟩
 ·exact .inl h
 ·exact .inr ⟨q1,q2,q3,q4,by omega,by omega⟩
end Go.Proofs.Pv
