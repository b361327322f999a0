/-
  Layer 9's edits: nothing can go up.
  Layer 9's edits: whether there are things for each part, and each bar (fits), as a call that looks.
  Layer 9's edits: bars in, bars out: the parts' rows, one by one.
  Conditions: none but those that each statement names.
-/
import Derived.Test.YtpapgaocjhnoiaaGreatDoorC11q
import Derived.Test.YtpapgaocjhnoiaaGreatDoorC10c
set_option linter.unusedVariables false
set_option linter.unusedSimpArgs false
namespace Go.Proofs.Pv
open Go Go.Proofs
set_option maxRecDepth 100000
def aK.upOk (o:aK) (n:Nat):Bool:=decide (o.part< (n:Nat)) && (decide (-70≤o.steps∧o.steps≤70) && decide (-120≤o.halves∧o.halves≤120))
set_option maxHeartbeats 8000000 in
theorem up_no {Φ:nJ} (s:Sc) (o:aK) (hk:o.kind=8) (hg:s.goodU Φ) (hno:o.upOk s.parts.length=false) {F:Fence} (hF:Free F) (hro:F.round=none) {W:World}:aO F Tryz.prog gl W 24 [.ptr 2000024 0] (MK s o (fun v=>v=errR 90)) ⟨gU Φ s o,2000068⟩:=by
  rw[gU,eG,dX]
  generalize lD Φ s=T
  obtain⟨n,hn⟩: ∃n:Int,(if decide (o.part< -1)=true then(-1:Int) else o.part)=n:=⟨_,rfl⟩
  have hn2:n< (s.parts.length:Nat)↔o.part< (s.parts.length:Nat):=by
    rw[←hn]
    split
    · rename_i h;simp at h;omega
    · exact Iff.rfl
  by_cases h0:n< (s.parts.length:Nat)
  · have hd0:decide (n≥((s.parts.length:Nat):Int))=false:=decide_eq_false (by omega)
    by_cases h1:o.steps< -70
    · have hd1:decide (o.steps< -70)=true:=decide_eq_true h1
      (refine aO.introZ hF hro 2 mix names (fn:=Tryz.f24) Tryz.func24 rfl ?_;simp -implicitDefEqProofs only[Tryz.ntmps24,Tryz.results24,aI,Nat.reduceAdd,Nat.reduceSub])
      repeat' (first
    |simp -implicitDefEqProofs (maxSteps:=9999999) only[↓reduceIte,aB,aC,facts,Nat.reduceAdd,Nat.reduceEqDiff,Nat.reduceLeDiff,Int.reduceNeg,List.flatMap_cons,List.flatMap_nil,AV.cells,Option.map_none,AV.one,aK.cells13,fU,dY,bQ,aZ,bD,dC,bG, *]
    |((with_reducible refine aQ ?_);refine bU (by decide+kernel) ?_)
    | ((with_reducible refine dN ?_ ?_);· decide+kernel))
      (refine jD (by decide) (by simp only[Nat.reduceLeDiff]) rfl ?_;simp only[eG,dX,aK.cells13,hk];exact aA (by simp [hget]) (aA (by simp [hget]) (aA (by simp [hget]) (aA (by simp [hget]) (aA (by simp [hget]) fun k b h=>by cases h)))))
    · have hd1:decide (o.steps< -70)=false:=decide_eq_false h1
      by_cases h2:o.steps>70
      · have hd2:decide (o.steps>70)=true:=decide_eq_true h2
        (refine aO.introZ hF hro 2 mix names (fn:=Tryz.f24) Tryz.func24 rfl ?_;simp -implicitDefEqProofs only[Tryz.ntmps24,Tryz.results24,aI,Nat.reduceAdd,Nat.reduceSub])
        repeat' (first
    |simp -implicitDefEqProofs (maxSteps:=9999999) only[↓reduceIte,aB,aC,facts,Nat.reduceAdd,Nat.reduceEqDiff,Nat.reduceLeDiff,Int.reduceNeg,List.flatMap_cons,List.flatMap_nil,AV.cells,Option.map_none,AV.one,aK.cells13,fU,dY,bQ,aZ,bD,dC,bG, *]
    |((with_reducible refine aQ ?_);refine bU (by decide+kernel) ?_)
    | ((with_reducible refine dN ?_ ?_);· decide+kernel))
        (refine jD (by decide) (by simp only[Nat.reduceLeDiff]) rfl ?_;simp only[eG,dX,aK.cells13,hk];exact aA (by simp [hget]) (aA (by simp [hget]) (aA (by simp [hget]) (aA (by simp [hget]) (aA (by simp [hget]) fun k b h=>by cases h)))))
      · have hd2:decide (o.steps>70)=false:=decide_eq_false h2
        by_cases h3:o.halves< -120
        · have hd3:decide (o.halves< -120)=true:=decide_eq_true h3
          (refine aO.introZ hF hro 2 mix names (fn:=Tryz.f24) Tryz.func24 rfl ?_;simp -implicitDefEqProofs only[Tryz.ntmps24,Tryz.results24,aI,Nat.reduceAdd,Nat.reduceSub])
          repeat' (first
    |simp -implicitDefEqProofs (maxSteps:=9999999) only[↓reduceIte,aB,aC,facts,Nat.reduceAdd,Nat.reduceEqDiff,Nat.reduceLeDiff,Int.reduceNeg,List.flatMap_cons,List.flatMap_nil,AV.cells,Option.map_none,AV.one,aK.cells13,fU,dY,bQ,aZ,bD,dC,bG, *]
    |((with_reducible refine aQ ?_);refine bU (by decide+kernel) ?_)
    | ((with_reducible refine dN ?_ ?_);· decide+kernel))
          (refine jD (by decide) (by simp only[Nat.reduceLeDiff]) rfl ?_;simp only[eG,dX,aK.cells13,hk];exact aA (by simp [hget]) (aA (by simp [hget]) (aA (by simp [hget]) (aA (by simp [hget]) (aA (by simp [hget]) fun k b h=>by cases h)))))
        · have hd3:decide (o.halves< -120)=false:=decide_eq_false h3
          have h4:o.halves>120:=by
            apply Classical.byContradiction
            intro h4
            have:o.upOk s.parts.length=true:=by
              rw[aK.upOk,decide_eq_true (hn2.1 h0),decide_eq_true (by omega),decide_eq_true (by omega)];rfl
            rw[hno] at this;cases this
          have hd4:decide (o.halves>120)=true:=decide_eq_true h4
          (refine aO.introZ hF hro 2 mix names (fn:=Tryz.f24) Tryz.func24 rfl ?_;simp -implicitDefEqProofs only[Tryz.ntmps24,Tryz.results24,aI,Nat.reduceAdd,Nat.reduceSub])
          repeat' (first
    |simp -implicitDefEqProofs (maxSteps:=9999999) only[↓reduceIte,aB,aC,facts,Nat.reduceAdd,Nat.reduceEqDiff,Nat.reduceLeDiff,Int.reduceNeg,List.flatMap_cons,List.flatMap_nil,AV.cells,AV.one,aK.cells13,fU,dY,bQ,aZ,bD,dC,bG, *]
    |((with_reducible refine aQ ?_);refine bU (by decide+kernel) ?_)
    |((with_reducible refine dN ?_ ?_);· decide+kernel))
          (refine jD (by decide) (by simp only[Nat.reduceLeDiff]) rfl ?_;simp only[eG,dX,aK.cells13,hk];exact aA (by simp [hget]) (aA (by simp [hget]) (aA (by simp [hget]) (aA (by simp [hget]) (aA (by simp [hget]) fun k b h=>by cases h)))))
  · have hd0:decide (n≥((s.parts.length:Nat):Int))=true:=decide_eq_true (by omega)
    (refine aO.introZ hF hro 2 mix names (fn:=Tryz.f24) Tryz.func24 rfl ?_;simp -implicitDefEqProofs only[Tryz.ntmps24,Tryz.results24,aI,Nat.reduceAdd,Nat.reduceSub])
    repeat' (first
    |simp -implicitDefEqProofs (maxSteps:=9999999) only[↓reduceIte,aB,aC,facts,Nat.reduceAdd,Nat.reduceEqDiff,Nat.reduceLeDiff,Int.reduceNeg,List.flatMap_cons,List.flatMap_nil,AV.cells,Option.map_none,AV.one,aK.cells13,fU,dY,bQ,aZ,bD,dC,bG, *]
    |((with_reducible refine aQ ?_);refine bU (by decide+kernel) ?_)
    |((with_reducible refine dN ?_ ?_);· decide+kernel))
    (refine jD (by decide) (by simp only[Nat.reduceLeDiff]) rfl ?_;simp only[eG,dX,aK.cells13,hk];exact aA (by simp [hget]) (aA (by simp [hget]) (aA (by simp [hget]) (aA (by simp [hget]) (aA (by simp [hget]) fun k b h=>by cases h)))))
end Go.Proofs.Pv
namespace Go.Proofs.Pv
open Go Go.Proofs
def vX (n:Nat):Nat→Option Nat:=fun k=>if k<n then some k else none
theorem Ej {n k:Nat} (h:k<n):vX n k=some k:=if_pos h
theorem dF.lowOk {n:Nat} {marks:List Nat} (h:(marks.all fun k=>decide (k<n))=true):dF n n (vX n) (vX n) marks:=by
 refine⟨fun k k' h=>?_,fun k h=>Ej h,fun k' h=>if_neg h,fun k hk=>by simpa using List.all_eq_true.1 h k hk⟩
 unfold vX at h
 split at h
 ·rename_i h1
  simp only[Option.some.injEq] at h
  subst h;exact Ej h1
 ·cases h
theorem aDx (nx:Nat) (hnx:3000000≤nx) {X:List AV} (hX: ∀f:Nat→Option Nat,(∀k,k<100→f k=some k)→X.map (AV.ren f)=X):aF (vX (nx+21)) [(nx,.cells [.ptr 2000024 0]),(2000024,.cells X)] [(nx,.cells [.ptr 2000024 0]),(2000024,.cells X)]:=by
 refine aF.cons (cs:=[.ptr 2000024 0]) nx (by simp [hget]) (Ej (by omega)) ?_ (aF.cons (cs:=X) 2000024 ?_ (Ej (by omega)) (hX _ fun k hk=>Ej (by omega)) aF.nil)
 ·simp only[List.map_cons,List.map_nil,AV.ren,Ej (show 2000024<nx+21 by omega)]
 ·simp only[hget]
  rw[if_neg (by omega)];rfl
theorem aTs {l:List (List (List Vo))} {i:Nat} (h:i<l.length):l[i]?=some l[i]:=List.getElem?_eq_getElem h
theorem aTt {l:List (List (List Dy))} {i:Nat} (h:i<l.length):l[i]?=some l[i]:=List.getElem?_eq_getElem h
def nU {α:Type} (np nb:Nat) (l:List (List α)):Bool:=decide (((l.length:Nat):Int)=((np:Nat):Int)) && !(l.any fun x=>decide (((x.length:Nat):Int)≠((nb:Nat):Int)))
theorem Ut (nx:Nat) (hnx:3000000≤nx) {X:List AV} {bx:aG}: ∀k b,hget [(2000024,.cells X)] k=some b→hget [(nx,bx),(2000024,.cells X)] k=some b:=by
 intro k b h
 simp only[hget] at h ⊢
 split at h
 ·rename_i e
  subst e
  rw[if_neg (by omega),if_pos rfl];exact h
 ·cases h
theorem Wx {α:Type} {np nb i:Nat} {l:List (List α)} (hi:i<l.length) (h:l[i].length≠nb):nU np nb l=false:=by
 have:(l.any fun x=>decide (((x.length:Nat):Int)≠((nb:Nat):Int)))=true:=List.any_eq_true.2 ⟨l[i],List.getElem_mem hi,by simp only[ne_eq,decide_eq_true_eq];omega⟩
 rw[nU,this];simp
theorem aEs {α:Type} {np nb:Nat} {l:List (List α)} (h0:l.length=np) (h: ∀j (hj:j<l.length),l[j].length=nb):nU np nb l=true:=by
 have:(l.any fun x=>decide (((x.length:Nat):Int)≠((nb:Nat):Int)))=false:=by
  rw[List.any_eq_false]
  intro x hx
  obtain⟨j,hj,rfl⟩:=List.mem_iff_getElem.1 hx
  have:=h j hj
  simp only[ne_eq,decide_eq_true_eq];omega
 rw[nU,this,h0];simp
theorem aH2 {α:Type} {np nb:Nat} {l:List (List α)} (h0:l.length≠np):nU np nb l=false:=by
 rw[nU,decide_eq_false (by omega)];rfl
set_option maxRecDepth 100000 in
set_option maxHeartbeats 4000000 in
theorem Ym (t:ByteArray) (B kd p b v a n ev:AV) (np:Nat) (l:List (List (List Vo))) (ob:List Ba) (rest:List AV) (hl:l.length≤1000000) (hX: ∀f:Nat→Option Nat,(∀k,k<100→f k=some k)→(.str t::B:: .msl 20 0 np 5::kd::p::b::v::a::n::ev:: .sl 14 (ob.map Ba.av) .none::rest:List AV).map (AV.ren f)= .str t::B:: .msl 20 0 np 5::kd::p::b::v::a::n::ev:: .sl 14 (ob.map Ba.av) .none::rest):Rd Tryz.prog gl 50 [.ptr 2000024 0,.sl 1 (l.map dJ) .none] (hget [(2000024,.cells (.str t::B:: .msl 20 0 np 5::kd::p::b::v::a::n::ev:: .sl 14 (ob.map Ba.av) .none::rest))]) (.bool (nU np ob.length l)):=by
 refine Rd.introN 5 3000000 mix names (fn:=Tryz.f50) Tryz.func50 rfl (fun f hf=>by rfl) fun nx hnx F hF hro W=>?_
 have hr1:nx<nx+21:=by omega
 have hsm:2000024<nx+21:=by omega
 have m1: ∀k,(2000024=nx+k)=False:=fun k=>eq_false (by omega)
 have m4: ∀k,(nx+k=2000024)=False:=fun k=>eq_false (by omega)
 have q1:(2000024=nx)=False:=eq_false (by omega)
 have q4:(nx=2000024)=False:=eq_false (by omega)
 simp -implicitDefEqProofs only[Tryz.ntmps50,Tryz.results50,aI,Nat.reduceAdd,Nat.reduceSub]
 repeat' (first
  |simp -implicitDefEqProofs (maxSteps:=9999999) only[↓reduceIte,aB,aC,facts,Nat.reduceAdd,Nat.reduceEqDiff,Nat.reduceLeDiff,kV,Nat.add_assoc, *]
  |((with_reducible refine oQ (fun _=>?_) (fun _=>?_))<;>try omega))
 rotate_left
 ·rename_i h1
  exact⟨by rw[aH2 (by simp only[beq_eq_false_iff_ne,ne_eq] at h1;omega)],fun k b h=>by first|exact Ut nx hnx k b h|exact h⟩
 rename_i h1
 have hlen:np=l.length:=by simp only[beq_iff_eq] at h1;omega
 subst hlen
 clear h1
 refine aT 88 ?_
 (refine iQ hF hro mix names 4 (fn:=Tryz.f88) Tryz.func88 rfl ?_;simp -implicitDefEqProofs only[Tryz.ntmps88,Tryz.results88,aI,Nat.reduceAdd,Nat.reduceSub])
 repeat' (simp -implicitDefEqProofs (maxSteps:=9999999) only[aB,aC,Nat.reduceAdd,Nat.add_assoc, *])
 refine aT 124 ?_
 (refine iQ hF hro mix names 3 (fn:=Tryz.f124) Tryz.func124 rfl ?_;simp -implicitDefEqProofs only[Tryz.ntmps124,Tryz.results124,aI,Nat.reduceAdd,Nat.reduceSub])
 repeat' (simp -implicitDefEqProofs (maxSteps:=9999999) only[↓reduceIte,aB,aC,facts,Nat.reduceAdd,Int.reduceNeg,Nat.add_assoc, *])
 refine jY (jQ 19 [0,1,7,8]) (nx+21) l.length (fun i (_:Unit)=>⟨[.sl 1 (l.map dJ) .none,.fn 89 [] [.ptr nx 0],.ud,.ud,.ud,.ud,.ud,.int .i64 (l.length:Nat),.int .i64 (i:Nat),.ud,.ud,.ud,.ud,.ud,.ud,.ud,.ud,.ud,.ud],[]⟩) (fun i _=>⟨(nx,.cells [.ptr 2000024 0])::[(2000024,.cells (.str t::B:: .msl 20 0 l.length 5::kd::p::b::v::a::n::ev:: .sl 14 (ob.map Ba.av) .none::rest))],nx+21⟩) (fun i _=> ∀j (hj:j<l.length),j<i→l[j].length=ob.length) ⟨(),by omega,vX (nx+21),vX (nx+21),dF.lowOk rfl,aDx nx hnx hX,rfl,by simp [Fr.renF,kH,jQ,mkM',Nat.beq,AV.ren,AV.renL,vX,hsm,hr1]⟩ ?_
 rintro i x hi hQ
 rcases Nat.lt_or_ge i l.length with hlt|hge
 ·repeat' (first
  |simp -implicitDefEqProofs (maxSteps:=9999999) only[↓reduceIte,aB,aC,facts,Nat.reduceAdd,Int.reduceGE,Int.reduceNeg,kV,Nat.add_assoc,aTs,dJ,aX, *]
  |((with_reducible refine aH (fun _=>?_) (fun _=>?_))<;>try omega))
  refine aT 89 ?_
  (refine iQ hF hro mix names 1 (fn:=Tryz.f89) Tryz.func89 rfl ?_;simp -implicitDefEqProofs only[Tryz.ntmps89,Tryz.results89,aI,Nat.reduceAdd,Nat.reduceSub])
  repeat' (first
  |simp -implicitDefEqProofs (maxSteps:=9999999) only[↓reduceIte,aB,aC,facts,Nat.reduceAdd,Nat.reduceEqDiff,Nat.reduceLeDiff,Int.reduceNeg,kV,Nat.add_assoc,wE, *]
  |simp -implicitDefEqProofs (maxSteps:=9999999) (disch:=first|assumption|omega) only[Int.reduceNeg,wrap_in, *]
  |((with_reducible refine dI (fun _=>?_) (fun _=>?_))<;>try omega))
  ·rename_i h1
   exact⟨by rw[Wx hlt (by simp only[bne_iff_ne,ne_eq] at h1;omega)],Ut nx hnx⟩
  ·rename_i h1
   refine dM i () hlt rfl (fun j hj hji=>?_) (vX (nx+21)) (vX (nx+21)) (dF.lowOk rfl) (aDx nx hnx hX) rfl (by simp [Fr.renF,kH,jQ,mkM',Nat.beq,AV.ren,AV.renL,vX,hsm,hr1])
   rcases Nat.lt_or_ge j i with h2|h2
   ·exact hQ j hj h2
   ·have:j=i:=by omega
    subst this
    simp only[bne_eq_false_iff_eq] at h1
    omega
 ·repeat' (first
  |simp -implicitDefEqProofs (maxSteps:=9999999) only[↓reduceIte,aB,aC,facts,Nat.reduceAdd,Int.reduceGE,Int.reduceNeg,kV,Nat.add_assoc,aX, *]
  |simp -implicitDefEqProofs (maxSteps:=9999999) (disch:=first|assumption|omega) only[Int.reduceNeg, *]
  |((with_reducible refine aH (fun _=>?_) (fun _=>?_))<;>try omega))
  exact⟨by rw[aEs rfl (fun j hj=>hQ j hj (by omega))],Ut nx hnx⟩
set_option maxRecDepth 100000 in
set_option maxHeartbeats 4000000 in
theorem Yn (t:ByteArray) (B kd p b v a n ev:AV) (np:Nat) (l:List (List (List Dy))) (ob:List Ba) (rest:List AV) (hl:l.length≤1000000) (hX: ∀f:Nat→Option Nat,(∀k,k<100→f k=some k)→(.str t::B:: .msl 20 0 np 5::kd::p::b::v::a::n::ev:: .sl 14 (ob.map Ba.av) .none::rest:List AV).map (AV.ren f)= .str t::B:: .msl 20 0 np 5::kd::p::b::v::a::n::ev:: .sl 14 (ob.map Ba.av) .none::rest):Rd Tryz.prog gl 51 [.ptr 2000024 0,.sl 1 (l.map dQ) .none] (hget [(2000024,.cells (.str t::B:: .msl 20 0 np 5::kd::p::b::v::a::n::ev:: .sl 14 (ob.map Ba.av) .none::rest))]) (.bool (nU np ob.length l)):=by
 refine Rd.introN 5 3000000 mix names (fn:=Tryz.f51) Tryz.func51 rfl (fun f hf=>by rfl) fun nx hnx F hF hro W=>?_
 have hr1:nx<nx+21:=by omega
 have hsm:2000024<nx+21:=by omega
 have m1: ∀k,(2000024=nx+k)=False:=fun k=>eq_false (by omega)
 have m4: ∀k,(nx+k=2000024)=False:=fun k=>eq_false (by omega)
 have q1:(2000024=nx)=False:=eq_false (by omega)
 have q4:(nx=2000024)=False:=eq_false (by omega)
 simp -implicitDefEqProofs only[Tryz.ntmps51,Tryz.results51,aI,Nat.reduceAdd,Nat.reduceSub]
 repeat' (first
  |simp -implicitDefEqProofs (maxSteps:=9999999) only[↓reduceIte,aB,aC,facts,Nat.reduceAdd,Nat.reduceEqDiff,Nat.reduceLeDiff,kV,Nat.add_assoc, *]
  |((with_reducible refine oQ (fun _=>?_) (fun _=>?_))<;>try omega))
 rotate_left
 ·rename_i h1
  exact⟨by rw[aH2 (by simp only[beq_eq_false_iff_ne,ne_eq] at h1;omega)],fun k b h=>by first|exact Ut nx hnx k b h|exact h⟩
 rename_i h1
 have hlen:np=l.length:=by simp only[beq_iff_eq] at h1;omega
 subst hlen
 clear h1
 refine aT 90 ?_
 (refine iQ hF hro mix names 4 (fn:=Tryz.f90) Tryz.func90 rfl ?_;simp -implicitDefEqProofs only[Tryz.ntmps90,Tryz.results90,aI,Nat.reduceAdd,Nat.reduceSub])
 repeat' (simp -implicitDefEqProofs (maxSteps:=9999999) only[aB,aC,Nat.reduceAdd,Nat.add_assoc, *])
 refine aT 125 ?_
 (refine iQ hF hro mix names 3 (fn:=Tryz.f125) Tryz.func125 rfl ?_;simp -implicitDefEqProofs only[Tryz.ntmps125,Tryz.results125,aI,Nat.reduceAdd,Nat.reduceSub])
 repeat' (simp -implicitDefEqProofs (maxSteps:=9999999) only[↓reduceIte,aB,aC,facts,Nat.reduceAdd,Int.reduceNeg,Nat.add_assoc, *])
 refine jY (jQ 19 [0,1,7,8]) (nx+21) l.length (fun i (_:Unit)=>⟨[.sl 1 (l.map dQ) .none,.fn 91 [] [.ptr nx 0],.ud,.ud,.ud,.ud,.ud,.int .i64 (l.length:Nat),.int .i64 (i:Nat),.ud,.ud,.ud,.ud,.ud,.ud,.ud,.ud,.ud,.ud],[]⟩) (fun i _=>⟨(nx,.cells [.ptr 2000024 0])::[(2000024,.cells (.str t::B:: .msl 20 0 l.length 5::kd::p::b::v::a::n::ev:: .sl 14 (ob.map Ba.av) .none::rest))],nx+21⟩) (fun i _=> ∀j (hj:j<l.length),j<i→l[j].length=ob.length) ⟨(),by omega,vX (nx+21),vX (nx+21),dF.lowOk rfl,aDx nx hnx hX,rfl,by simp [Fr.renF,kH,jQ,mkM',Nat.beq,AV.ren,AV.renL,vX,hsm,hr1]⟩ ?_
 rintro i x hi hQ
 rcases Nat.lt_or_ge i l.length with hlt|hge
 ·repeat' (first
  |simp -implicitDefEqProofs (maxSteps:=9999999) only[↓reduceIte,aB,aC,facts,Nat.reduceAdd,Int.reduceGE,Int.reduceNeg,kV,Nat.add_assoc,aTt,dQ,aX, *]
  |((with_reducible refine aH (fun _=>?_) (fun _=>?_))<;>try omega))
  refine aT 91 ?_
  (refine iQ hF hro mix names 1 (fn:=Tryz.f91) Tryz.func91 rfl ?_;simp -implicitDefEqProofs only[Tryz.ntmps91,Tryz.results91,aI,Nat.reduceAdd,Nat.reduceSub])
  repeat' (first
  |simp -implicitDefEqProofs (maxSteps:=9999999) only[↓reduceIte,aB,aC,facts,Nat.reduceAdd,Nat.reduceEqDiff,Nat.reduceLeDiff,Int.reduceNeg,kV,Nat.add_assoc,wE, *]
  |simp -implicitDefEqProofs (maxSteps:=9999999) (disch:=first|assumption|omega) only[Int.reduceNeg,wrap_in, *]
  |((with_reducible refine dI (fun _=>?_) (fun _=>?_))<;>try omega))
  ·rename_i h1
   exact⟨by rw[Wx hlt (by simp only[bne_iff_ne,ne_eq] at h1;omega)],Ut nx hnx⟩
  ·rename_i h1
   refine dM i () hlt rfl (fun j hj hji=>?_) (vX (nx+21)) (vX (nx+21)) (dF.lowOk rfl) (aDx nx hnx hX) rfl (by simp [Fr.renF,kH,jQ,mkM',Nat.beq,AV.ren,AV.renL,vX,hsm,hr1])
   rcases Nat.lt_or_ge j i with h2|h2
   ·exact hQ j hj h2
   ·have:j=i:=by omega
    subst this
    simp only[bne_eq_false_iff_eq] at h1
    omega
 ·repeat' (first
  |simp -implicitDefEqProofs (maxSteps:=9999999) only[↓reduceIte,aB,aC,facts,Nat.reduceAdd,Int.reduceGE,Int.reduceNeg,kV,Nat.add_assoc,aX, *]
  |simp -implicitDefEqProofs (maxSteps:=9999999) (disch:=first|assumption|omega) only[Int.reduceNeg, *]
  |((with_reducible refine aH (fun _=>?_) (fun _=>?_))<;>try omega))
  exact⟨by rw[aEs rfl (fun j hj=>hQ j hj (by omega))],Ut nx hnx⟩
end Go.Proofs.Pv
namespace Go.Proofs.Pv
open Go Go.Proofs
set_option maxRecDepth 100000
def iG:List Pa→List (List AV)
 |[]=>[]
 |p::r=>p.cells.flatMap eY::p.dyns.flatMap fG::iG r
def TC (ps:List Pa):List (Nat×aG):=hC (dS 22 (iG ps))
theorem iV: ∀ps:List Pa,(iG ps).length=2*ps.length
 |[]=>rfl
 |p::r=>by simp only[iG,List.length_cons,iV r];omega
theorem aB5: ∀a b:List Pa,iG (a++b)=iG a++iG b
 |[],b=>rfl
 |p::r,b=>by simp only[List.cons_append,iG,aB5 r b]
theorem Ak {f:Nat→Option Nat}: ∀ps:List Pa,(iG ps).map (List.map (AV.ren f))=iG ps
 |[]=>rfl
 |p::r=>by simp only[iG,List.map_cons,uA,mQ,Ak r]
theorem aEn: ∀(ps:List Pa) (j:Nat) (h:j<ps.length),(iG ps)[2*j]?=some (ps[j].cells.flatMap eY)∧(iG ps)[2*j+1]?=some (ps[j].dyns.flatMap fG)
 |[],j,h=>by simp at h
 |p::ps,0,h=>⟨rfl,rfl⟩
 |p::ps,j+1,h=>by
  have:=aEn ps j (by simpa using h)
  rw[show 2*(j+1)=2*j+1+1 by omega]
  simpa [iG] using this
theorem Wv: ∀(D:Nat) (ps:List Pa),iM oK D ps=iG ps∧deep oK D ps=[]∧fE oK ps=0
 |D,[]=>⟨rfl,rfl,rfl⟩
 |D,p::ps=>by
  obtain⟨h1,h2,h3⟩:=Wv (D+cnt oK p.cells) ps
  obtain⟨g1,g2,g3⟩:=aBg D p.cells
  refine⟨?_,?_,?_⟩
  ·rw[iM,h1,iG];exact congrArg (fun x=>x::p.dyns.flatMap fG::iG ps) g1
  ·rw[deep,h2,List.append_nil];exact g2
  ·rw[fE,h3];exact g3
theorem aEo (s:Sc):lD oK s=TC s.parts:=by
 rw[lD,Zo,Es,sJ,nC,nC,Au,Ko,(Wv _ _).1,(Wv _ _).2.1,TC]
 simp [dS,hC]
theorem TC_t {ps:List Pa} (h:ps.length≤400):iC 22 1000 (TC ps):=(iC.fam (m:=1000) (by rw[iV];omega))
theorem aR1 {hp:Hp} {R:Nat} {ps:List Pa} (h: ∀k b,hget (hC (dS R (iG ps))) k=some b→hp k=some b) (j:Nat) (hj:j<ps.length):hp (R+2*j)=some (.cells (ps[j].cells.flatMap eY))∧hp (R+2*j+1)=some (.cells (ps[j].dyns.flatMap fG)):=by
 obtain⟨h1,h2⟩:=aEn ps j hj
 have hl:=iV ps
 constructor
 ·rw[List.getElem?_eq_getElem (by rw[hl];omega),Option.some.injEq] at h1
  exact h _ _ (by rw[iF (by rw[hl];omega),h1])
 ·rw[List.getElem?_eq_getElem (by rw[hl];omega),Option.some.injEq] at h2
  exact h _ _ (by rw[show R+2*j+1=R+(2*j+1) by omega,iF (by rw[hl];omega),h2])
def aEp (k:Nat):Bool:=false
theorem Yl {hp:Hp}: ∀(R:Nat) (ps:List Pa),(∀j (h:j<ps.length),hp (R+2*j)=some (.cells (ps[j].cells.flatMap eY))∧hp (R+2*j+1)=some (.cells (ps[j].dyns.flatMap fG)))→(bV R ps).map (AV.nowS aEp hp 4)=ps.flatMap Pa.cells5
 |R,[],_=>rfl
 | R,p::ps,h=>by
  obtain⟨g1,g2⟩:=h 0 (by simp)
  simp only[Nat.mul_zero,Nat.add_zero,List.getElem_cons_zero] at g1 g2
  have ih:=Yl (R+2) ps fun j hj=>by
   have:=h (j+1) (by simp only[List.length_cons];omega)
   rw[show R+2*(j+1)=R+2+2*j by omega] at this
   simpa using this
  simp only[bV,List.map_cons,ih,List.flatMap_cons,Pa.cells5,List.cons_append,List.nil_append]
  rw[Us p.cells g1 rfl (by rw[lN (c:=eY) (fun _=>rfl)];exact mZ (c:=bW) _) rfl (fun _=>rfl),Us p.dyns g2 rfl (by rw[lN (c:=fG) (fun _=>rfl)];exact mZ (c:=fF) _) rfl (fun _=>rfl)]
  rfl
theorem aHy {o:aK} {s':Sc} {kb:Int} {B b':List AV} {R kq:Nat} (hR:22≤R∧R+2*s'.parts.length<9000000∧(2000024<R∨R+2*s'.parts.length≤2000024)) (hkq:21≤kq∧kq<R∧kq≠2000024)
  (hB':B.map (AV.nowS aEp (fun _=>none) 5)=b') (hBp: ∀hp:Hp,B.map (AV.nowS aEp hp 5)=B.map (AV.nowS aEp (fun _=>none) 5)) (hs:s'.small) (hB: ∀x∈B,x.one=true):
  aI5 o (fun v=>v=uB s' (.agg (.int .i64 (if kb=0 then o.kind else kb)::b'))) [.str s'.title,.msl kq 0 s'.bars.length 14,.msl 20 0 s'.parts.length 5] B kb ((20,.cells (bV R s'.parts))::(kq,.cells (s'.bars.flatMap Ba.cells))::hC (dS R (iG s'.parts))):=by
 have hT:iC R (R+2*s'.parts.length) (hC (dS R (iG s'.parts))):=iC.fam (by rw[iV];omega)
 refine⟨fun k b hk=>?_,fun x hx=>?_,aEp,s',hs,b',fun hp h=>?_,fun hc=>by rw[uB,if_neg hc],fun hc=>by rw[uB,if_pos hc]⟩
 ·simp only[hget] at hk
  split at hk
  ·omega
  ·split at hk
   ·omega
   ·have:=hT.mem hk
    omega
 ·simp only[List.cons_append,List.nil_append,List.mem_cons] at hx
  rcases hx with rfl|rfl|rfl|hx
  ·rfl
  ·rfl
  ·rfl
  ·exact hB x hx
 ·refine⟨scGX s' (h kq _ (by rw[aW (by omega)];simp [hget])) (h 20 _ (by simp [hget])) (Yl R _ (aR1 fun k b hk=>h k b ?_)) (kL _ _) rfl rfl,(hBp hp).trans hB'⟩
  have:=hT.mem hk
  rw[aW (by omega),aW (by omega)];exact hk
def Ez (N:Nat) (qs ps:List Pa) (i:Nat):List AV:=bV N (qs.take i)++bV (22+2*i) (ps.drop i)
def wP (N:Nat) (qs ps:List Pa) (i:Nat):List (Nat×aG):=hC (dS (22+2*i) (iG (ps.drop i)))++hC (dS N (iG (qs.take i)))
def vO (N:Nat) (qs ps:List Pa) (i:Nat):List (Nat×aG):=hC (dS (22+2*i+2) (iG (ps.drop (i+1))))++hC (dS N (iG (qs.take i)))
section
variable {N:Nat} {qs ps:List Pa} {i:Nat}
theorem aL4:Ez N qs ps 0=bV 22 ps:=rfl
theorem aHz:wP N qs ps 0=TC ps:=by simp [wP,TC,dS,iG,hC]
theorem aL5 (h:qs.length=ps.length):Ez N qs ps ps.length=bV N qs:=by
 simp only[Ez,List.drop_length,bV,List.append_nil]
 rw[List.take_of_length_le (by omega)]
theorem aH0 (h:qs.length=ps.length):wP N qs ps ps.length=hC (dS N (iG qs)):=by
 simp only[wP,List.drop_length,iG,dS]
 rw[List.take_of_length_le (by omega)];rfl
theorem aB6 (h:i<ps.length):wP N qs ps i=(22+2*i,.cells (ps[i].cells.flatMap eY))::(22+2*i+1,.cells (ps[i].dyns.flatMap fG))::vO N qs ps i:=by
 rw[wP,vO,List.drop_eq_getElem_cons h];rfl
theorem aEq (h:i<ps.length) (hq:qs.length=ps.length): ∃A C,A.length=i*5∧A=bV N (qs.take i)∧C=bV (22+2*i+2) (ps.drop (i+1))∧Ez N qs ps i=A++(.str ps[i].name:: .int .i64 ps[i].clef:: .int .i64 ps[i].channel:: .msl (22+2*i) 0 ps[i].cells.length 1:: .msl (22+2*i+1) 0 ps[i].dyns.length 1::C):=by
 refine⟨_,_,?_,rfl,rfl,?_⟩
 ·rw[kL,List.length_take]
  rw[Nat.min_eq_left (by omega)]
 ·rw[Ez,List.drop_eq_getElem_cons h];rfl
theorem aB7 (h:i<ps.length) (hq:qs.length=ps.length):Ez N qs ps (i+1)=bV N (qs.take i)++(.str (qs[i]'(by omega)).name:: .int .i64 (qs[i]'(by omega)).clef:: .int .i64 (qs[i]'(by omega)).channel:: .msl (N+2*i) 0 (qs[i]'(by omega)).cells.length 1:: .msl (N+2*i+1) 0 (qs[i]'(by omega)).dyns.length 1::bV (22+2*i+2) (ps.drop (i+1))):=by
 have hl:(qs.take i).length=i:=by rw[List.length_take];omega
 rw[Ez,take_snoc (by omega),Rt,hl,List.append_assoc];rfl
theorem aA2 (hN:1000≤N) (hn:ps.length≤400) (hi:i<ps.length):iC 24 (N+2*i) (vO N qs ps i):=by
 refine iC.app ((iC.fam (m:=1000) (by rw[iV,List.length_drop];omega)).wide (by omega) (by omega)) ((iC.fam (m:=N+2*i) ?_).wide (by omega) (Nat.le_refl _))
 rw[iV,List.length_take];omega
theorem aB8 (hN:1000≤N) (hn:ps.length≤400) (hi:i<ps.length) {k:Nat} {b:aG} (hk:hget (vO N qs ps i) k=some b):24≤k∧(k<1000∨N≤k)∧k<N+2*i:=by
 have h1:=(aA2 (N:=N) (qs:=qs) hN hn hi).mem hk
 refine⟨h1.1,?_,h1.2⟩
 rw[vO,bJ] at hk
 split at hk
 ·rename_i x hx
  have:=(iC.fam (K:=22+2*i+2) (m:=1000) (l:=iG (ps.drop (i+1))) (by rw[iV,List.length_drop];omega)).mem hx
  omega
 ·have:=(iC.fam (K:=N) (m:=N+2*i) (l:=iG (qs.take i)) (by rw[iV,List.length_take];omega)).mem hk
  omega
theorem Hy (hN:1000≤N) (hn:ps.length≤400) (hi:i<ps.length) {k:Nat} (hk:k<22+2*i+2):hget (vO N qs ps i) k=none:=by
 rw[vO,bJ,Xw hk,Xw (by omega)]
theorem aEr {f:Nat→Option Nat} {h hd':List (Nat×aG)} (h1:aF f h hd') (hN:1000≤N) (hn:ps.length≤400) (hi:i<ps.length) (hq:qs.length=ps.length) (hZ: ∀k b,hget (vO N qs ps i) k=some b→hget h k=some b) (fK: ∀k,k<1000→f k=some k) (fN: ∀j,j<2*i→f (N+j)=some (N+j))
  (X1 X2:Nat) (f1:f X1=some (N+2*i)) (f2:f X2=some (N+2*i+1)) (g1:hget h X1=some (.cells ((qs[i]'(by omega)).cells.flatMap eY))) (g2:hget h X2=some (.cells ((qs[i]'(by omega)).dyns.flatMap fG))):aF f h (hd'++wP N qs ps (i+1)):=by
 have hl:(qs.take i).length=i:=by rw[List.length_take];omega
 have e:wP N qs ps (i+1)=hC (dS (22+2*i+2) (iG (ps.drop (i+1))))++(hC (dS N (iG (qs.take i)))++((N+2*i,.cells ((qs[i]'(by omega)).cells.flatMap eY))::(N+2*i+1,.cells ((qs[i]'(by omega)).dyns.flatMap fG))::[])):=by
  rw[wP,take_snoc (by omega),aB5,Hl,sJ,iV,hl];rfl
 rw[e]
 refine aF.app h1 (aF.app (aF.famM (Ak _) (fun j hj=>fK _ ?_) fun j hj=>hZ _ _ ?_) (aF.app (aF.famM (Ak _) (fun j hj=>fN j ?_) fun j hj=>hZ _ _ ?_) (aF.cons X1 g1 f1 (uA _) (aF.cons X2 g2 f2 (mQ _) aF.nil))))
 ·rw[iV,List.length_drop] at hj;omega
 ·rw[vO,bJ,iF hj]
 ·rw[iV,hl] at hj;exact hj
 ·have hj2:=hj
  rw[iV,hl] at hj2
  rw[vO,bJ,uJ (by rw[iV,List.length_drop];omega)]
  exact iF hj
end
theorem aH1 {A C:List AV} {n a b c d x y:AV} {m:Nat} (hA:A.length=m):List.take (m+4) (List.take (m+3) (A++n::a::b::c::d::C)++x::List.drop (m+4) (A++n::a::b::c::d::C))++y::List.drop (m+5) (List.take (m+3) (A++n::a::b::c::d::C)++x::List.drop (m+4) (A++n::a::b::c::d::C))=A++n::a::b::x::y::C:=by
 subst hA
 have e:List.take (A.length+3) (A++n::a::b::c::d::C)++x::List.drop (A.length+4) (A++n::a::b::c::d::C)=A++n::a::b::x::d::C:=by
  rw[List.take_length_add_append,List.drop_length_add_append];simp
 rw[e,List.take_length_add_append,List.drop_length_add_append];simp
end Go.Proofs.Pv
