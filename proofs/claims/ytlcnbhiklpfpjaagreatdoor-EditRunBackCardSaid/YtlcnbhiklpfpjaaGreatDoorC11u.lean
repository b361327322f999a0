/-
Layer 9's edits: nothing can go up.
Conditions: none but those that each statement names.
-/
import Derived.Test.YtlcnbhiklpfpjaaGreatDoorC11q
import Derived.Test.YtlcnbhiklpfpjaaGreatDoorC10c
set_option linter.unusedVariables false
set_option linter.unusedSimpArgs false
set_option maxRecDepth 100000
set_option maxHeartbeats 16000000
namespace Go.Proofs.Pv
open Go Go.Proofs
def aH.upOk (o:aH) (n:Nat):Bool:=decide (o.part< (n:Nat)) && (decide (-70<=o.steps/\o.steps<=70) && decide (-120<=o.halves/\o.halves<=120))
theorem up_no {Φ:oK} (s:Sc) (o:aH) (hk:o.kind=8) (hg:s.goodU Φ) (hno:o.upOk s.parts.length=false) {F:Fence} (hF:Free F) (hro:F.round=none) {W:World}:aP F Tryz.prog gl W 27 [.ptr 2000024 0] (MK s o (fun v=>v=errR 90)) ⟨iD Φ s o,2000068⟩:=by
  rw[iD,eU,eG]
  generalize lW Φ s=T
  obtain⟨n,hn⟩: ∃n:Int,(if decide (o.part< -1)=true then(-1:Int) else o.part)=n:=⟨_,rfl⟩
  have hn2:n< (s.parts.length:Nat)↔o.part< (s.parts.length:Nat):=by
    rw[<-hn]
    split
    · rename_i h;simp at h;omega
    · exact Iff.rfl
  by_cases h0:n< (s.parts.length:Nat)
  · have hd0:decide (n>=((s.parts.length:Nat):Int))=false:=decide_eq_false (by omega)
    by_cases h1:o.steps< -70
    · have hd1:decide (o.steps< -70)=true:=decide_eq_true h1
      (refine aP.introZ hF hro 2 mix names (fn:=Tryz.f27) Tryz.func27 rfl ?_;simp only[Tryz.ntmps27,Tryz.results27,aJ,Nat.reduceAdd,Nat.reduceSub])
      repeat' (first
    |simp -implicitDefEqProofs (maxSteps:=9999999) only[↓reduceIte,aA,aC,facts,Nat.reduceAdd,Nat.reduceEqDiff,Nat.reduceLeDiff,Int.reduceNeg,List.flatMap_cons,List.flatMap_nil,AV.cells,Option.map_none,AV.one,aH.cells13,fV,eF,bF,aU,aV,dB,aW, *]
    |((with_reducible refine aO ?_);refine bM (by decide+kernel) ?_)
    | ((with_reducible refine dP ?_ ?_);· decide+kernel))
      (refine jL (by decide) (by simp only[Nat.reduceLeDiff]) rfl ?_;simp only[eU,eG,aH.cells13,hk];exact aB (by simp [hget]) (aB (by simp [hget]) (aB (by simp [hget]) (aB (by simp [hget]) (aB (by simp [hget]) fun k b h=>by cases h)))))
    · have hd1:decide (o.steps< -70)=false:=decide_eq_false h1
      by_cases h2:o.steps>70
      · have hd2:decide (o.steps>70)=true:=decide_eq_true h2
        (refine aP.introZ hF hro 2 mix names (fn:=Tryz.f27) Tryz.func27 rfl ?_;simp only[Tryz.ntmps27,Tryz.results27,aJ,Nat.reduceAdd,Nat.reduceSub])
        repeat' (first
    |simp -implicitDefEqProofs (maxSteps:=9999999) only[↓reduceIte,aA,aC,facts,Nat.reduceAdd,Nat.reduceEqDiff,Nat.reduceLeDiff,Int.reduceNeg,List.flatMap_cons,List.flatMap_nil,AV.cells,Option.map_none,AV.one,aH.cells13,fV,eF,bF,aU,aV,dB,aW, *]
    |((with_reducible refine aO ?_);refine bM (by decide+kernel) ?_)
    | ((with_reducible refine dP ?_ ?_);· decide+kernel))
        (refine jL (by decide) (by simp only[Nat.reduceLeDiff]) rfl ?_;simp only[eU,eG,aH.cells13,hk];exact aB (by simp [hget]) (aB (by simp [hget]) (aB (by simp [hget]) (aB (by simp [hget]) (aB (by simp [hget]) fun k b h=>by cases h)))))
      · have hd2:decide (o.steps>70)=false:=decide_eq_false h2
        by_cases h3:o.halves< -120
        · have hd3:decide (o.halves< -120)=true:=decide_eq_true h3
          (refine aP.introZ hF hro 2 mix names (fn:=Tryz.f27) Tryz.func27 rfl ?_;simp only[Tryz.ntmps27,Tryz.results27,aJ,Nat.reduceAdd,Nat.reduceSub])
          repeat' (first
    |simp -implicitDefEqProofs (maxSteps:=9999999) only[↓reduceIte,aA,aC,facts,Nat.reduceAdd,Nat.reduceEqDiff,Nat.reduceLeDiff,Int.reduceNeg,List.flatMap_cons,List.flatMap_nil,AV.cells,Option.map_none,AV.one,aH.cells13,fV,eF,bF,aU,aV,dB,aW, *]
    |((with_reducible refine aO ?_);refine bM (by decide+kernel) ?_)
    | ((with_reducible refine dP ?_ ?_);· decide+kernel))
          (refine jL (by decide) (by simp only[Nat.reduceLeDiff]) rfl ?_;simp only[eU,eG,aH.cells13,hk];exact aB (by simp [hget]) (aB (by simp [hget]) (aB (by simp [hget]) (aB (by simp [hget]) (aB (by simp [hget]) fun k b h=>by cases h)))))
        · have hd3:decide (o.halves< -120)=false:=decide_eq_false h3
          have h4:o.halves>120:=by
            apply Classical.byContradiction
            intro h4
            have:o.upOk s.parts.length=true:=by
              rw[aH.upOk,decide_eq_true (hn2.1 h0),decide_eq_true (by omega),decide_eq_true (by omega)];rfl
            rw[hno] at this;cases this
          have hd4:decide (o.halves>120)=true:=decide_eq_true h4
          (refine aP.introZ hF hro 2 mix names (fn:=Tryz.f27) Tryz.func27 rfl ?_;simp only[Tryz.ntmps27,Tryz.results27,aJ,Nat.reduceAdd,Nat.reduceSub])
          repeat' (first
    |simp -implicitDefEqProofs (maxSteps:=9999999) only[↓reduceIte,aA,aC,facts,Nat.reduceAdd,Nat.reduceEqDiff,Nat.reduceLeDiff,Int.reduceNeg,List.flatMap_cons,List.flatMap_nil,AV.cells,AV.one,aH.cells13,fV,eF,bF,aU,aV,dB,aW, *]
    |((with_reducible refine aO ?_);refine bM (by decide+kernel) ?_)
    |((with_reducible refine dP ?_ ?_);· decide+kernel))
          (refine jL (by decide) (by simp only[Nat.reduceLeDiff]) rfl ?_;simp only[eU,eG,aH.cells13,hk];exact aB (by simp [hget]) (aB (by simp [hget]) (aB (by simp [hget]) (aB (by simp [hget]) (aB (by simp [hget]) fun k b h=>by cases h)))))
  · have hd0:decide (n>=((s.parts.length:Nat):Int))=true:=decide_eq_true (by omega)
    (refine aP.introZ hF hro 2 mix names (fn:=Tryz.f27) Tryz.func27 rfl ?_;simp only[Tryz.ntmps27,Tryz.results27,aJ,Nat.reduceAdd,Nat.reduceSub])
    repeat' (first
    |simp -implicitDefEqProofs (maxSteps:=9999999) only[↓reduceIte,aA,aC,facts,Nat.reduceAdd,Nat.reduceEqDiff,Nat.reduceLeDiff,Int.reduceNeg,List.flatMap_cons,List.flatMap_nil,AV.cells,Option.map_none,AV.one,aH.cells13,fV,eF,bF,aU,aV,dB,aW, *]
    |((with_reducible refine aO ?_);refine bM (by decide+kernel) ?_)
    |((with_reducible refine dP ?_ ?_);· decide+kernel))
    (refine jL (by decide) (by simp only[Nat.reduceLeDiff]) rfl ?_;simp only[eU,eG,aH.cells13,hk];exact aB (by simp [hget]) (aB (by simp [hget]) (aB (by simp [hget]) (aB (by simp [hget]) (aB (by simp [hget]) fun k b h=>by cases h)))))
def wS (n:Nat):Nat->Option Nat:=fun k=>if k<n then some k else none
theorem Gj {n k:Nat} (h:k<n):wS n k=some k:=if_pos h
theorem dH.lowOk {n:Nat} {marks:List Nat} (h:(marks.all fun k=>decide (k<n))=true):dH n n (wS n) (wS n) marks:=by
 refine⟨fun k k' h=>?_,fun k h=>Gj h,fun k' h=>if_neg h,fun k hk=>by simpa using List.all_eq_true.1 h k hk⟩
 unfold wS at h
 split at h
 ·rename_i h1
  simp only[Option.some.injEq] at h
  subst h;exact Gj h1
 ·cases h
theorem aEg (nx:Nat) (hnx:3000000<=nx) {X:List AV} (hX: ∀f:Nat->Option Nat,(∀k,k<100->f k=some k)->X.map (AV.ren f)=X):aG (wS (nx+21)) [(nx,.cells [.ptr 2000024 0]),(2000024,.cells X)] [(nx,.cells [.ptr 2000024 0]),(2000024,.cells X)]:=by
 refine aG.cons (cs:=[.ptr 2000024 0]) nx (by simp [hget]) (Gj (by omega)) ?_ (aG.cons (cs:=X) 2000024 ?_ (Gj (by omega)) (hX _ fun k hk=>Gj (by omega)) aG.nil)
 ·simp only[List.map_cons,List.map_nil,AV.ren,Gj (show 2000024<nx+21 by omega)]
 ·simp only[hget]
  rw[if_neg (by omega)];rfl
theorem aU8 {l:List (List (List Vo))} {i:Nat} (h:i<l.length):l[i]?=some l[i]:=List.getElem?_eq_getElem h
theorem aU9 {l:List (List (List Dy))} {i:Nat} (h:i<l.length):l[i]?=some l[i]:=List.getElem?_eq_getElem h
def mM {α:Type} (np nb:Nat) (l:List (List α)):Bool:=decide (((l.length:Nat):Int)=((np:Nat):Int)) && !(l.any fun x=>decide (((x.length:Nat):Int)≠((nb:Nat):Int)))
theorem Vs (nx:Nat) (hnx:3000000<=nx) {X:List AV} {bx:aI}: ∀k b,hget [(2000024,.cells X)] k=some b->hget [(nx,bx),(2000024,.cells X)] k=some b:=by
 intro k b h
 simp only[hget] at h ⊢
 split at h
 ·rename_i e
  subst e
  rw[if_neg (by omega),if_pos rfl];exact h
 ·cases h
theorem Xy {α:Type} {np nb i:Nat} {l:List (List α)} (hi:i<l.length) (h:l[i].length≠nb):mM np nb l=false:=by
 have:(l.any fun x=>decide (((x.length:Nat):Int)≠((nb:Nat):Int)))=true:=List.any_eq_true.2 ⟨l[i],List.getElem_mem hi,by simp only[ne_eq,decide_eq_true_eq];omega⟩
 rw[mM,this];simp
theorem aE9 {α:Type} {np nb:Nat} {l:List (List α)} (h0:l.length=np) (h: ∀j (hj:j<l.length),l[j].length=nb):mM np nb l=true:=by
 have:(l.any fun x=>decide (((x.length:Nat):Int)≠((nb:Nat):Int)))=false:=by
  rw[List.any_eq_false]
  intro x hx
  obtain⟨j,hj,rfl⟩:=List.mem_iff_getElem.1 hx
  have:=h j hj
  simp only[ne_eq,decide_eq_true_eq];omega
 rw[mM,this,h0];simp
theorem aIk {α:Type} {np nb:Nat} {l:List (List α)} (h0:l.length≠np):mM np nb l=false:=by
 rw[mM,decide_eq_false (by omega)];rfl
theorem Zj (t:ByteArray) (B kd p b v a n ev:AV) (np:Nat) (l:List (List (List Vo))) (ob:List Ba) (rest:List AV) (hl:l.length<=1000000) (hX: ∀f:Nat->Option Nat,(∀k,k<100->f k=some k)->(.str t::B:: .msl 20 0 np 5::kd::p::b::v::a::n::ev:: .sl 14 (ob.map Ba.av) .none::rest:List AV).map (AV.ren f)= .str t::B:: .msl 20 0 np 5::kd::p::b::v::a::n::ev:: .sl 14 (ob.map Ba.av) .none::rest):Rd Tryz.prog gl 53 [.ptr 2000024 0,.sl 1 (l.map dM) .none] (hget [(2000024,.cells (.str t::B:: .msl 20 0 np 5::kd::p::b::v::a::n::ev:: .sl 14 (ob.map Ba.av) .none::rest))]) (.bool (mM np ob.length l)):=by
 refine Rd.introN 5 3000000 mix names (fn:=Tryz.f53) Tryz.func53 rfl (fun f hf=>by rfl) fun nx hnx F hF hro W=>?_
 have hr1:nx<nx+21:=by omega
 have hsm:2000024<nx+21:=by omega
 have m1: ∀k,(2000024=nx+k)=False:=fun k=>eq_false (by omega)
 have m4: ∀k,(nx+k=2000024)=False:=fun k=>eq_false (by omega)
 have q1:(2000024=nx)=False:=eq_false (by omega)
 have q4:(nx=2000024)=False:=eq_false (by omega)
 simp only[Tryz.ntmps53,Tryz.results53,aJ,Nat.reduceAdd,Nat.reduceSub]
 repeat' (first
  |simp -implicitDefEqProofs (maxSteps:=9999999) only[↓reduceIte,aA,aC,facts,Nat.reduceAdd,Nat.reduceEqDiff,Nat.reduceLeDiff,lL,Nat.add_assoc, *]
  |((with_reducible refine sD (fun _=>?_) (fun _=>?_))<;>try omega))
 rotate_left
 ·rename_i h1
  exact⟨by rw[aIk (by simp only[beq_eq_false_iff_ne,ne_eq] at h1;omega)],fun k b h=>by first|exact Vs nx hnx k b h|exact h⟩
 rename_i h1
 have hlen:np=l.length:=by simp only[beq_iff_eq] at h1;omega
 subst hlen
 clear h1
 refine aS 90 ?_
 (refine iI hF hro mix names 4 (fn:=Tryz.f90) Tryz.func90 rfl ?_;simp only[Tryz.ntmps90,Tryz.results90,aJ,Nat.reduceAdd,Nat.reduceSub])
 repeat' (simp -implicitDefEqProofs (maxSteps:=9999999) only[aA,aC,Nat.reduceAdd,Nat.add_assoc, *])
 refine aS 126 ?_
 (refine iI hF hro mix names 3 (fn:=Tryz.f126) Tryz.func126 rfl ?_;simp only[Tryz.ntmps126,Tryz.results126,aJ,Nat.reduceAdd,Nat.reduceSub])
 repeat' (simp -implicitDefEqProofs (maxSteps:=9999999) only[↓reduceIte,aA,aC,facts,Nat.reduceAdd,Int.reduceNeg,Nat.add_assoc, *])
 refine jV (fD 19 [0,1,7,8]) (nx+21) l.length (fun i (_:Unit)=>⟨[.sl 1 (l.map dM) .none,.fn 91 [] [.ptr nx 0],.ud,.ud,.ud,.ud,.ud,.int .i64 (l.length:Nat),.int .i64 (i:Nat),.ud,.ud,.ud,.ud,.ud,.ud,.ud,.ud,.ud,.ud],[]⟩) (fun i _=>⟨(nx,.cells [.ptr 2000024 0])::[(2000024,.cells (.str t::B:: .msl 20 0 l.length 5::kd::p::b::v::a::n::ev:: .sl 14 (ob.map Ba.av) .none::rest))],nx+21⟩) (fun i _=> ∀j (hj:j<l.length),j<i->l[j].length=ob.length) ⟨(),by omega,wS (nx+21),wS (nx+21),dH.lowOk rfl,aEg nx hnx hX,rfl,by simp [Fr.renF,kF,fD,tN,Nat.beq,AV.ren,AV.renL,wS,hsm,hr1]⟩ ?_
 rintro i x hi hQ
 rcases Nat.lt_or_ge i l.length with hlt|hge
 ·repeat' (first
  |simp -implicitDefEqProofs (maxSteps:=9999999) only[↓reduceIte,aA,aC,facts,Nat.reduceAdd,Int.reduceGE,Int.reduceNeg,lL,Nat.add_assoc,aU8,dM,aT, *]
  |((with_reducible refine aF (fun _=>?_) (fun _=>?_))<;>try omega))
  refine aS 91 ?_
  (refine iI hF hro mix names 1 (fn:=Tryz.f91) Tryz.func91 rfl ?_;simp only[Tryz.ntmps91,Tryz.results91,aJ,Nat.reduceAdd,Nat.reduceSub])
  repeat' (first
  |simp -implicitDefEqProofs (maxSteps:=9999999) only[↓reduceIte,aA,aC,facts,Nat.reduceAdd,Nat.reduceEqDiff,Nat.reduceLeDiff,Int.reduceNeg,lL,Nat.add_assoc,rF, *]
  |simp -implicitDefEqProofs (maxSteps:=9999999) (disch:=first|assumption|omega) only[Int.reduceNeg,wrap_in, *]
  |((with_reducible refine dL (fun _=>?_) (fun _=>?_))<;>try omega))
  ·rename_i h1
   exact⟨by rw[Xy hlt (by simp only[bne_iff_ne,ne_eq] at h1;omega)],Vs nx hnx⟩
  ·rename_i h1
   refine dN i () hlt rfl (fun j hj hji=>?_) (wS (nx+21)) (wS (nx+21)) (dH.lowOk rfl) (aEg nx hnx hX) rfl (by simp [Fr.renF,kF,fD,tN,Nat.beq,AV.ren,AV.renL,wS,hsm,hr1])
   rcases Nat.lt_or_ge j i with h2|h2
   ·exact hQ j hj h2
   ·have:j=i:=by omega
    subst this
    simp only[bne_eq_false_iff_eq] at h1
    omega
 ·repeat' (first
  |simp -implicitDefEqProofs (maxSteps:=9999999) only[↓reduceIte,aA,aC,facts,Nat.reduceAdd,Int.reduceGE,Int.reduceNeg,lL,Nat.add_assoc,aT, *]
  |simp -implicitDefEqProofs (maxSteps:=9999999) (disch:=first|assumption|omega) only[Int.reduceNeg, *]
  |((with_reducible refine aF (fun _=>?_) (fun _=>?_))<;>try omega))
  exact⟨by rw[aE9 rfl (fun j hj=>hQ j hj (by omega))],Vs nx hnx⟩
theorem Zk (t:ByteArray) (B kd p b v a n ev:AV) (np:Nat) (l:List (List (List Dy))) (ob:List Ba) (rest:List AV) (hl:l.length<=1000000) (hX: ∀f:Nat->Option Nat,(∀k,k<100->f k=some k)->(.str t::B:: .msl 20 0 np 5::kd::p::b::v::a::n::ev:: .sl 14 (ob.map Ba.av) .none::rest:List AV).map (AV.ren f)= .str t::B:: .msl 20 0 np 5::kd::p::b::v::a::n::ev:: .sl 14 (ob.map Ba.av) .none::rest):Rd Tryz.prog gl 54 [.ptr 2000024 0,.sl 1 (l.map dV) .none] (hget [(2000024,.cells (.str t::B:: .msl 20 0 np 5::kd::p::b::v::a::n::ev:: .sl 14 (ob.map Ba.av) .none::rest))]) (.bool (mM np ob.length l)):=by
 refine Rd.introN 5 3000000 mix names (fn:=Tryz.f54) Tryz.func54 rfl (fun f hf=>by rfl) fun nx hnx F hF hro W=>?_
 have hr1:nx<nx+21:=by omega
 have hsm:2000024<nx+21:=by omega
 have m1: ∀k,(2000024=nx+k)=False:=fun k=>eq_false (by omega)
 have m4: ∀k,(nx+k=2000024)=False:=fun k=>eq_false (by omega)
 have q1:(2000024=nx)=False:=eq_false (by omega)
 have q4:(nx=2000024)=False:=eq_false (by omega)
 simp only[Tryz.ntmps54,Tryz.results54,aJ,Nat.reduceAdd,Nat.reduceSub]
 repeat' (first
  |simp -implicitDefEqProofs (maxSteps:=9999999) only[↓reduceIte,aA,aC,facts,Nat.reduceAdd,Nat.reduceEqDiff,Nat.reduceLeDiff,lL,Nat.add_assoc, *]
  |((with_reducible refine sD (fun _=>?_) (fun _=>?_))<;>try omega))
 rotate_left
 ·rename_i h1
  exact⟨by rw[aIk (by simp only[beq_eq_false_iff_ne,ne_eq] at h1;omega)],fun k b h=>by first|exact Vs nx hnx k b h|exact h⟩
 rename_i h1
 have hlen:np=l.length:=by simp only[beq_iff_eq] at h1;omega
 subst hlen
 clear h1
 refine aS 92 ?_
 (refine iI hF hro mix names 4 (fn:=Tryz.f92) Tryz.func92 rfl ?_;simp only[Tryz.ntmps92,Tryz.results92,aJ,Nat.reduceAdd,Nat.reduceSub])
 repeat' (simp -implicitDefEqProofs (maxSteps:=9999999) only[aA,aC,Nat.reduceAdd,Nat.add_assoc, *])
 refine aS 127 ?_
 (refine iI hF hro mix names 3 (fn:=Tryz.f127) Tryz.func127 rfl ?_;simp only[Tryz.ntmps127,Tryz.results127,aJ,Nat.reduceAdd,Nat.reduceSub])
 repeat' (simp -implicitDefEqProofs (maxSteps:=9999999) only[↓reduceIte,aA,aC,facts,Nat.reduceAdd,Int.reduceNeg,Nat.add_assoc, *])
 refine jV (fD 19 [0,1,7,8]) (nx+21) l.length (fun i (_:Unit)=>⟨[.sl 1 (l.map dV) .none,.fn 93 [] [.ptr nx 0],.ud,.ud,.ud,.ud,.ud,.int .i64 (l.length:Nat),.int .i64 (i:Nat),.ud,.ud,.ud,.ud,.ud,.ud,.ud,.ud,.ud,.ud],[]⟩) (fun i _=>⟨(nx,.cells [.ptr 2000024 0])::[(2000024,.cells (.str t::B:: .msl 20 0 l.length 5::kd::p::b::v::a::n::ev:: .sl 14 (ob.map Ba.av) .none::rest))],nx+21⟩) (fun i _=> ∀j (hj:j<l.length),j<i->l[j].length=ob.length) ⟨(),by omega,wS (nx+21),wS (nx+21),dH.lowOk rfl,aEg nx hnx hX,rfl,by simp [Fr.renF,kF,fD,tN,Nat.beq,AV.ren,AV.renL,wS,hsm,hr1]⟩ ?_
 rintro i x hi hQ
 rcases Nat.lt_or_ge i l.length with hlt|hge
 ·repeat' (first
  |simp -implicitDefEqProofs (maxSteps:=9999999) only[↓reduceIte,aA,aC,facts,Nat.reduceAdd,Int.reduceGE,Int.reduceNeg,lL,Nat.add_assoc,aU9,dV,aT, *]
  |((with_reducible refine aF (fun _=>?_) (fun _=>?_))<;>try omega))
  refine aS 93 ?_
  (refine iI hF hro mix names 1 (fn:=Tryz.f93) Tryz.func93 rfl ?_;simp only[Tryz.ntmps93,Tryz.results93,aJ,Nat.reduceAdd,Nat.reduceSub])
  repeat' (first
  |simp -implicitDefEqProofs (maxSteps:=9999999) only[↓reduceIte,aA,aC,facts,Nat.reduceAdd,Nat.reduceEqDiff,Nat.reduceLeDiff,Int.reduceNeg,lL,Nat.add_assoc,rF, *]
  |simp -implicitDefEqProofs (maxSteps:=9999999) (disch:=first|assumption|omega) only[Int.reduceNeg,wrap_in, *]
  |((with_reducible refine dL (fun _=>?_) (fun _=>?_))<;>try omega))
  ·rename_i h1
   exact⟨by rw[Xy hlt (by simp only[bne_iff_ne,ne_eq] at h1;omega)],Vs nx hnx⟩
  ·rename_i h1
   refine dN i () hlt rfl (fun j hj hji=>?_) (wS (nx+21)) (wS (nx+21)) (dH.lowOk rfl) (aEg nx hnx hX) rfl (by simp [Fr.renF,kF,fD,tN,Nat.beq,AV.ren,AV.renL,wS,hsm,hr1])
   rcases Nat.lt_or_ge j i with h2|h2
   ·exact hQ j hj h2
   ·have:j=i:=by omega
    subst this
    simp only[bne_eq_false_iff_eq] at h1
    omega
 ·repeat' (first
  |simp -implicitDefEqProofs (maxSteps:=9999999) only[↓reduceIte,aA,aC,facts,Nat.reduceAdd,Int.reduceGE,Int.reduceNeg,lL,Nat.add_assoc,aT, *]
  |simp -implicitDefEqProofs (maxSteps:=9999999) (disch:=first|assumption|omega) only[Int.reduceNeg, *]
  |((with_reducible refine aF (fun _=>?_) (fun _=>?_))<;>try omega))
  exact⟨by rw[aE9 rfl (fun j hj=>hQ j hj (by omega))],Vs nx hnx⟩
def iP:List Pa->List (List AV)
 |[]=>[]
 |p::r=>p.cells.flatMap fF::p.dyns.flatMap fP::iP r
def TC (ps:List Pa):List (Nat×aI):=hC (dW 22 (iP ps))
theorem jD: ∀ps:List Pa,(iP ps).length=2*ps.length
 |[]=>rfl
 |p::r=>by simp only[iP,List.length_cons,jD r];omega
theorem aCm: ∀a b:List Pa,iP (a++b)=iP a++iP b
 |[],b=>rfl
 |p::r,b=>by simp only[List.cons_append,iP,aCm r b]
theorem Ci {f:Nat->Option Nat}: ∀ps:List Pa,(iP ps).map (List.map (AV.ren f))=iP ps
 |[]=>rfl
 |p::r=>by simp only[iP,List.map_cons,uX,nU,Ci r]
theorem aE5: ∀(ps:List Pa) (j:Nat) (h:j<ps.length),(iP ps)[2*j]?=some (ps[j].cells.flatMap fF)/\(iP ps)[2*j+1]?=some (ps[j].dyns.flatMap fP)
 |[],j,h=>by simp at h
 |p::ps,0,h=>⟨rfl,rfl⟩
 |p::ps,j+1,h=>by
  have:=aE5 ps j (by simpa using h)
  rw[show 2*(j+1)=2*j+1+1 by omega]
  simpa [iP] using this
theorem Xw: ∀(D:Nat) (ps:List Pa),iV pW D ps=iP ps/\deep pW D ps=[]/\fM pW ps=0
 |D,[]=>⟨rfl,rfl,rfl⟩
 |D,p::ps=>by
  obtain⟨h1,h2,h3⟩:=Xw (D+cnt pW p.cells) ps
  obtain⟨g1,g2,g3⟩:=aBx D p.cells
  refine⟨?_,?_,?_⟩
  ·rw[iV,h1,iP];exact congrArg (fun x=>x::p.dyns.flatMap fP::iP ps) g1
  ·rw[deep,h2,List.append_nil];exact g2
  ·rw[fM,h3];exact g3
theorem aE6 (s:Sc):lW pW s=TC s.parts:=by
 rw[lW,scT,Gs,uD,oC,oC,Dc,Nc,(Xw _ _).1,(Xw _ _).2.1,TC]
 simp [dW,hC]
theorem TC_t {ps:List Pa} (h:ps.length<=400):iJ 22 1000 (TC ps):=(iJ.fam (m:=1000) (by rw[jD];omega))
theorem aS9 {hp:Hp} {R:Nat} {ps:List Pa} (h: ∀k b,hget (hC (dW R (iP ps))) k=some b->hp k=some b) (j:Nat) (hj:j<ps.length):hp (R+2*j)=some (.cells (ps[j].cells.flatMap fF))/\hp (R+2*j+1)=some (.cells (ps[j].dyns.flatMap fP)):=by
 obtain⟨h1,h2⟩:=aE5 ps j hj
 have hl:=jD ps
 constructor
 ·rw[List.getElem?_eq_getElem (by rw[hl];omega),Option.some.injEq] at h1
  exact h _ _ (by rw[iO (by rw[hl];omega),h1])
 ·rw[List.getElem?_eq_getElem (by rw[hl];omega),Option.some.injEq] at h2
  exact h _ _ (by rw[show R+2*j+1=R+(2*j+1) by omega,iO (by rw[hl];omega),h2])
def Xx (k:Nat):Bool:=false
theorem Zi {hp:Hp}: ∀(R:Nat) (ps:List Pa),(∀j (h:j<ps.length),hp (R+2*j)=some (.cells (ps[j].cells.flatMap fF))/\hp (R+2*j+1)=some (.cells (ps[j].dyns.flatMap fP)))->(cZ R ps).map (AV.nowS Xx hp 4)=ps.flatMap Pa.cells5
 |R,[],_=>rfl
 | R,p::ps,h=>by
  obtain⟨g1,g2⟩:=h 0 (by simp)
  simp only[Nat.mul_zero,Nat.add_zero,List.getElem_cons_zero] at g1 g2
  have ih:=Zi (R+2) ps fun j hj=>by
   have:=h (j+1) (by simp only[List.length_cons];omega)
   rw[show R+2*(j+1)=R+2+2*j by omega] at this
   simpa using this
  simp only[cZ,List.map_cons,ih,List.flatMap_cons,Pa.cells5,List.cons_append,List.nil_append]
  rw[Vr p.cells g1 rfl (by rw[lV (c:=fF) (fun _=>rfl)];exact nZ (c:=bU) _) rfl (fun _=>rfl),Vr p.dyns g2 rfl (by rw[lV (c:=fP) (fun _=>rfl)];exact nZ (c:=eP) _) rfl (fun _=>rfl)]
  rfl
theorem aIg {o:aH} {s':Sc} {kb:Int} {B b':List AV} {R kq:Nat} (hR:22<=R/\R+2*s'.parts.length<9000000/\(2000024<R\/R+2*s'.parts.length<=2000024)) (hkq:21<=kq/\kq<R/\kq≠2000024)
  (hB':B.map (AV.nowS Xx (fun _=>none) 5)=b') (hBp: ∀hp:Hp,B.map (AV.nowS Xx hp 5)=B.map (AV.nowS Xx (fun _=>none) 5)) (hs:s'.small) (hB: ∀x∈B,x.one=true):
  aJp o (fun v=>v=uY s' (.agg (.int .i64 (if kb=0 then o.kind else kb)::b'))) [.str s'.title,.msl kq 0 s'.bars.length 14,.msl 20 0 s'.parts.length 5] B kb ((20,.cells (cZ R s'.parts))::(kq,.cells (s'.bars.flatMap Ba.cells))::hC (dW R (iP s'.parts))):=by
 have hT:iJ R (R+2*s'.parts.length) (hC (dW R (iP s'.parts))):=iJ.fam (by rw[jD];omega)
 refine⟨fun k b hk=>?_,fun x hx=>?_,Xx,s',hs,b',fun hp h=>?_,fun hc=>by rw[uY,if_neg hc],fun hc=>by rw[uY,if_pos hc]⟩
 ·simp only[hget] at hk
  split at hk
  ·omega
  ·split at hk
   ·omega
   ·have:=hT.mem hk
    omega
 ·simp only[List.cons_append,List.nil_append,List.mem_cons] at hx
  rcases hx with rfl|rfl|rfl|hx
  ·rfl
  ·rfl
  ·rfl
  ·exact hB x hx
 ·refine⟨scGX s' (h kq _ (by rw[bD (by omega)];simp [hget])) (h 20 _ (by simp [hget])) (Zi R _ (aS9 fun k b hk=>h k b ?_)) (kY _ _) rfl rfl,(hBp hp).trans hB'⟩
  have:=hT.mem hk
  rw[bD (by omega),bD (by omega)];exact hk
def Gx (N:Nat) (qs ps:List Pa) (i:Nat):List AV:=cZ N (qs.take i)++cZ (22+2*i) (ps.drop i)
def xN (N:Nat) (qs ps:List Pa) (i:Nat):List (Nat×aI):=hC (dW (22+2*i) (iP (ps.drop i)))++hC (dW N (iP (qs.take i)))
def wM (N:Nat) (qs ps:List Pa) (i:Nat):List (Nat×aI):=hC (dW (22+2*i+2) (iP (ps.drop (i+1))))++hC (dW N (iP (qs.take i)))
section
variable {N:Nat} {qs ps:List Pa} {i:Nat}
theorem aMp:Gx N qs ps 0=cZ 22 ps:=rfl
theorem aIh:xN N qs ps 0=TC ps:=by simp [xN,TC,dW,iP,hC]
theorem aMq (h:qs.length=ps.length):Gx N qs ps ps.length=cZ N qs:=by
 simp only[Gx,List.drop_length,cZ,List.append_nil]
 rw[List.take_of_length_le (by omega)]
theorem aIi (h:qs.length=ps.length):xN N qs ps ps.length=hC (dW N (iP qs)):=by
 simp only[xN,List.drop_length,iP,dW]
 rw[List.take_of_length_le (by omega)];rfl
theorem aCn (h:i<ps.length):xN N qs ps i=(22+2*i,.cells (ps[i].cells.flatMap fF))::(22+2*i+1,.cells (ps[i].dyns.flatMap fP))::wM N qs ps i:=by
 rw[xN,wM,List.drop_eq_getElem_cons h];rfl
theorem aE7 (h:i<ps.length) (hq:qs.length=ps.length): ∃A C,A.length=i*5/\A=cZ N (qs.take i)/\C=cZ (22+2*i+2) (ps.drop (i+1))/\Gx N qs ps i=A++(.str ps[i].name:: .int .i64 ps[i].clef:: .int .i64 ps[i].channel:: .msl (22+2*i) 0 ps[i].cells.length 1:: .msl (22+2*i+1) 0 ps[i].dyns.length 1::C):=by
 refine⟨_,_,?_,rfl,rfl,?_⟩
 ·rw[kY,List.length_take]
  rw[Nat.min_eq_left (by omega)]
 ·rw[Gx,List.drop_eq_getElem_cons h];rfl
theorem aCo (h:i<ps.length) (hq:qs.length=ps.length):Gx N qs ps (i+1)=cZ N (qs.take i)++(.str (qs[i]'(by omega)).name:: .int .i64 (qs[i]'(by omega)).clef:: .int .i64 (qs[i]'(by omega)).channel:: .msl (N+2*i) 0 (qs[i]'(by omega)).cells.length 1:: .msl (N+2*i+1) 0 (qs[i]'(by omega)).dyns.length 1::cZ (22+2*i+2) (ps.drop (i+1))):=by
 have hl:(qs.take i).length=i:=by rw[List.length_take];omega
 rw[Gx,take_snoc (by omega),Tq,hl,List.append_assoc];rfl
theorem aBl (hN:1000<=N) (hn:ps.length<=400) (hi:i<ps.length):iJ 24 (N+2*i) (wM N qs ps i):=by
 refine iJ.app ((iJ.fam (m:=1000) (by rw[jD,List.length_drop];omega)).wide (by omega) (by omega)) ((iJ.fam (m:=N+2*i) ?_).wide (by omega) (Nat.le_refl _))
 rw[jD,List.length_take];omega
theorem aCp (hN:1000<=N) (hn:ps.length<=400) (hi:i<ps.length) {k:Nat} {b:aI} (hk:hget (wM N qs ps i) k=some b):24<=k/\(k<1000\/N<=k)/\k<N+2*i:=by
 have h1:=(aBl (N:=N) (qs:=qs) hN hn hi).mem hk
 refine⟨h1.1,?_,h1.2⟩
 rw[wM,bV] at hk
 split at hk
 ·rename_i x hx
  have:=(iJ.fam (K:=22+2*i+2) (m:=1000) (l:=iP (ps.drop (i+1))) (by rw[jD,List.length_drop];omega)).mem hx
  omega
 ·have:=(iJ.fam (K:=N) (m:=N+2*i) (l:=iP (qs.take i)) (by rw[jD,List.length_take];omega)).mem hk
  omega
theorem Jd (hN:1000<=N) (hn:ps.length<=400) (hi:i<ps.length) {k:Nat} (hk:k<22+2*i+2):hget (wM N qs ps i) k=none:=by
 rw[wM,bV,Yu hk,Yu (by omega)]
theorem aE8 {f:Nat->Option Nat} {h hd':List (Nat×aI)} (h1:aG f h hd') (hN:1000<=N) (hn:ps.length<=400) (hi:i<ps.length) (hq:qs.length=ps.length) (hZ: ∀k b,hget (wM N qs ps i) k=some b->hget h k=some b) (fK: ∀k,k<1000->f k=some k) (fN: ∀j,j<2*i->f (N+j)=some (N+j))
  (X1 X2:Nat) (f1:f X1=some (N+2*i)) (f2:f X2=some (N+2*i+1)) (g1:hget h X1=some (.cells ((qs[i]'(by omega)).cells.flatMap fF))) (g2:hget h X2=some (.cells ((qs[i]'(by omega)).dyns.flatMap fP))):aG f h (hd'++xN N qs ps (i+1)):=by
 have hl:(qs.take i).length=i:=by rw[List.length_take];omega
 have e:xN N qs ps (i+1)=hC (dW (22+2*i+2) (iP (ps.drop (i+1))))++(hC (dW N (iP (qs.take i)))++((N+2*i,.cells ((qs[i]'(by omega)).cells.flatMap fF))::(N+2*i+1,.cells ((qs[i]'(by omega)).dyns.flatMap fP))::[])):=by
  rw[xN,take_snoc (by omega),aCm,Ir,uD,jD,hl];rfl
 rw[e]
 refine aG.app h1 (aG.app (aG.famM (Ci _) (fun j hj=>fK _ ?_) fun j hj=>hZ _ _ ?_) (aG.app (aG.famM (Ci _) (fun j hj=>fN j ?_) fun j hj=>hZ _ _ ?_) (aG.cons X1 g1 f1 (uX _) (aG.cons X2 g2 f2 (nU _) aG.nil))))
 ·rw[jD,List.length_drop] at hj;omega
 ·rw[wM,bV,iO hj]
 ·rw[jD,hl] at hj;exact hj
 ·have hj2:=hj
  rw[jD,hl] at hj2
  rw[wM,bV,vJ (by rw[jD,List.length_drop];omega)]
  exact iO hj
end
theorem aIj {A C:List AV} {n a b c d x y:AV} {m:Nat} (hA:A.length=m):List.take (m+4) (List.take (m+3) (A++n::a::b::c::d::C)++x::List.drop (m+4) (A++n::a::b::c::d::C))++y::List.drop (m+5) (List.take (m+3) (A++n::a::b::c::d::C)++x::List.drop (m+4) (A++n::a::b::c::d::C))=A++n::a::b::x::y::C:=by
 subst hA
 have e:List.take (A.length+3) (A++n::a::b::c::d::C)++x::List.drop (A.length+4) (A++n::a::b::c::d::C)=A++n::a::b::x::d::C:=by
  rw[List.take_length_add_append,List.drop_length_add_append];simp
 rw[e,List.take_length_add_append,List.drop_length_add_append];simp
end Go.Proofs.Pv
