/-
Layer 9: slices.Reverse at a list of edits.
Conditions: none but those that each statement names.
-/
import Derived.Test.YtlcnbhiklpfpjaaGreatDoorC13
import Derived.Test.YtlcnbhiklpfpjaaGreatDoorC11e
import Derived.Test.YtlcnbhiklpfpjaaGreatDoorC09s
set_option linter.unusedVariables false
set_option linter.unusedSimpArgs false
set_option maxRecDepth 100000
set_option maxHeartbeats 16000000
namespace Go.Proofs.Pv
open Go Go.Proofs
def kX {α:Type} (l:List α) (i:Nat):List α:=l.mapIdx fun k x=>if k<i\/l.length<=k+i then l.getD (l.length - 1 - k) x else x
theorem lY {α:Type} {l:List α} {i:Nat}:(kX l i).length=l.length:=List.length_mapIdx
theorem Yk {α:Type} {l:List α} {i k:Nat} (h:k< (kX l i).length):(kX l i)[k]=if k<i\/l.length<=k+i then l[l.length - 1 - k]'(by rw[lY] at h;omega) else l[k]'(by rw[lY] at h;exact h):=by
 rw[lY] at h
 simp only[kX,List.getElem_mapIdx]
 split
 ·exact getD_at (by omega)
 ·rfl
theorem aUb {α:Type} {l:List α}:kX l 0=l:=by
 refine List.ext_getElem lY fun k h1 h2=>?_
 rw[Yk,if_neg (by omega)]
theorem aOw {α:Type} {l:List α} {i:Nat} (h:l.length<=2*i+1):kX l i=l.reverse:=by
 refine List.ext_getElem (by rw[lY,List.length_reverse]) fun k h1 h2=>?_
 have h3:=h1
 rw[lY] at h3
 rw[Yk,List.getElem_reverse]
 split
 ·rfl
 ·congr 1;omega
theorem aLi {α:Type} {l:List α} {i:Nat} (h:2*i+1<l.length):((kX l i).set i ((kX l i)[l.length - 1 - i]'(by rw[lY];omega))).set (l.length - 1 - i) ((kX l i)[i]'(by rw[lY];omega))=kX l (i+1):=by
 refine List.ext_getElem (by simp only[List.length_set,lY]) fun k h1 h2=>?_
 have hk:=h2
 rw[lY] at hk
 simp only[List.getElem_set,Yk]
 repeat' split
 all_goals first|rfl|(exfalso;omega)|(congr 1;omega)
theorem Wp (x:aH):x.cells13.length=13:=rfl
theorem Uf (l:List aH):(l.flatMap aH.cells13).length=l.length*13:=flat_length (k:=13) Wp l
def jP (s:Sc):List aH->List aH->Int×Sc×List aH×Nat
 |[],bs=>(0,s,bs,bs.length)
 |o::l,bs=>if(dA s o).1=0 then jP (dA s o).2.1 l (bs++[(dA s o).2.2]) else((dA s o).1,zeroS,[],bs.length)
def xE (r:Int×Sc×List aH×Nat):AV:= .tup [r.2.1.av,.sl 13 (r.2.2.1.reverse.map aH.av) .none,.int .i64 (r.2.2.2:Nat),.int .i64 r.1]
def tY (l:List aH):AV:= .sl 13 (l.map aH.av) .none
def nJ (s:Sc) (l:List aH):Int×Sc×List aH×Nat:=if s.checkR.2=0 then jP s l [] else(s.checkR.2,zeroS,[],0)
theorem aOx (s:Sc) (hs:s.fine) (hc:s.checkR.2=0):PC Tryz.prog gl 16 [s.av] (fun v=>v=s.av):=aMn s (Lu (mO hc) hs.sm fun b hb=>(hs.sh b hb).e)
theorem aHs (s:Sc) (l:List aH) (hs:s.fine) (hc:s.checkR.2≠0):PC Tryz.prog gl 7 [s.av,tY l] (fun v=>v=xE (nJ s l)):=by
 rw[nJ,if_neg hc]
 have hne:(s.checkR.2 !=0)=true:=by simpa using hc
 (refine PC.introZ 2 mix (fn:=Tryz.f7) Tryz.func7 rfl (names 7 _ Tryz.func7) fun F hF hro W=>?_;simp only[Tryz.ntmps7,Tryz.results7,aJ,Nat.reduceAdd,Nat.reduceSub])
 repeat' (first
  |simp -implicitDefEqProofs only[↓reduceIte,aA,aC,facts,Nat.reduceAdd,Nat.reduceEqDiff,Sc.av,pR,qV,AV.cells,AV.one, *]
  |((with_reducible refine aS 15 ?_);refine PC.useZ hF (lT s hs.sm) (rfl) fun v hv=>?_;subst hv))
 all_goals rfl
theorem aV5 (s:Sc) (l:List aH) (hs:s.fine) (hl: ∀o∈l,o.fine) (hn:l.length<=1000000) (hc:s.checkR.2=0):PC Tryz.prog gl 7 [s.av,tY l] (fun v=>v=xE (nJ s l)):=by
  rw[nJ,if_pos hc]
  have hco:=aOx s hs hc
  unfold tY
  (refine PC.introT 4 mix names (fn:=Tryz.f7) Tryz.func7 rfl fun F hF hro W=>?_;simp only[Tryz.ntmps7,Tryz.results7,aJ,Nat.reduceAdd,Nat.reduceSub])
  repeat' (first
    |simp -implicitDefEqProofs only[↓reduceIte,aA,aC,facts,Nat.reduceAdd,Nat.reduceEqDiff,Int.reduceBNe,Sc.av,pR,qV,AV.cells,AV.one, *]
    |((with_reducible refine aS 15 ?_);refine PC.useZ hF (lT s hs.sm) (rfl) fun v hv=>?_;subst hv)
    |((with_reducible refine aS 16 ?_);refine PC.useZ hF hco (rfl) fun v hv=>?_;subst hv))
  refine jV (fD 59 [1,4,10,11,28,29,30]) 3000 l.length (fun i (x:Sc×List aH)=>⟨[.ud,.sl 13 (l.map aH.av) .none,.ud,.ud,.ptr 1 0,.ud,.ud,.ud,.ud,.ud,.ptr 15 0,iR 2000 13 i,.ud,.ud,.ud,.ud,.ud,.ud,.ud,.ud,.ud,.ud,.ud,.ud,.ud,.ud,.ud,.ud,.sl 13 (l.map aH.av) .none,.int .i64 (l.length:Nat),.int .i64 (i:Nat),.ud,.ud,.ud,.ud,.ud,.ud,.ud,.ud,.ud,.ud,.ud,.ud,.ud,.ud,.ud,.ud,.ud,.ud,.ud,.ud,.ud,.ud,.ud,.ud,.ud,.ud,.ud,.ud],[]⟩) (fun i x=>⟨hC (jI 2000 (x.2.flatMap aH.cells13) i)++[(15,.cells [.str x.1.title,.sl 14 (x.1.bars.map Ba.av) .none,.sl 5 (x.1.parts.map Pa.av) .none]),(9,.cells [.int .i64 s.checkR.1.1,.int .i64 s.checkR.1.2.1,.int .i64 s.checkR.1.2.2.1,.int .i64 s.checkR.1.2.2.2]),(1,.cells [.str ⟨#[]⟩,.sl 14 [] .full,.sl 5 [] .full]),(0,.cells [.str s.title,.sl 14 (s.bars.map Ba.av) .none,.sl 5 (s.parts.map Pa.av) .none])],3000⟩)
    (fun i x=>i<1000001/\x.1.fine/\x.2.length=i/\jP s l []=jP x.1 (l.drop i) x.2) ⟨(s,[]),⟨by omega,hs,rfl,rfl⟩,bI 21 [],gK 21 [],dH.of_fit rfl rfl rfl,?_,rfl,rfl⟩ ?_
  · refine aG.cons 15 rfl rfl rfl (aG.cons 9 rfl rfl rfl (aG.cons 1 rfl rfl rfl (aG.cons 0 rfl rfl rfl aG.nil)))
  rintro i ⟨t,bs⟩ hi ⟨hi2,ht,hbl,hQ⟩
  simp only at ht hbl hQ ⊢
  rcases Nat.lt_or_ge i l.length with hlt|hge
  · have hwr:IntKind.i64.wrap ((i:Int)+1)=(i:Int)+1:=wrap_in (by omega)
    have k1:((i:Nat):Int)< ((l.length:Nat):Int):=by omega
    have hog:l[i]?=some l[i]:=List.getElem?_eq_getElem hlt
    have hof:=hl _ (List.getElem_mem hlt)
    have hap:=aDk t l[i] ht hof
    have hto:=Xk t l[i] ht hof
    have hfi:=Bl ht hof
    rw[List.drop_eq_getElem_cons hlt,jP] at hQ
    obtain⟨o,ho⟩: ∃o,l[i]=o:=⟨_,rfl⟩
    rw[ho] at hog hap hto hfi hQ
    obtain⟨r,hr⟩: ∃r,dA t o=r:=⟨_,rfl⟩
    rw[hr] at hap hto hfi hQ
    have bQ:=PLift.up hQ
    clear hQ hr ho hof
    rcases hto with⟨he,hse,hout⟩|⟨he,hc1,hd1,hout⟩
    · rw[hout] at hap
      have he1:(r.1 !=0)=true:=by simpa using he
      have bse:=PLift.up hse
      clear hse hout hfi
      rcases i with _|i
      · simp only[aX,aY,aN,List.nil_append]
        repeat' (first
    |simp -implicitDefEqProofs only[↓reduceIte,aA,aC,facts,Nat.reduceAdd,Nat.reduceEqDiff,Int.reduceLE,AV.cells,AV.one,errR,aH.av,zM,aT,rF, *]
    |((with_reducible refine aF (fun _=>?_) (fun _=>?_))<;>try omega)
    | ((with_reducible refine aS 9 ?_);refine PC.useZ hF hap (rfl) fun v hv=>?_;subst hv))
        refine⟨_,vC,6,rfl,?_⟩
        rw[bQ.down,if_neg he,hbl];rfl
      · simp only[dY,bJ,aK,aN,List.nil_append,List.cons_append]
        repeat' (first
    |simp -implicitDefEqProofs only[↓reduceIte,aA,aC,facts,Nat.reduceAdd,Nat.reduceEqDiff,AV.cells,AV.one,errR,aH.av,zM,rF, *]
    | ((with_reducible refine aS 9 ?_);refine PC.useZ hF hap (rfl) fun v hv=>?_;subst hv))
        refine⟨_,vC,6,rfl,?_⟩
        rw[bQ.down,if_neg he,hbl];rfl
    · rw[hout] at hap
      have bhd:=PLift.up (ZI hc1 hd1)
      clear hc1 hd1 hout
      obtain⟨e,t2,b2⟩:=r
      simp only at he hap hfi bQ
      subst he
      have hf2:=hfi rfl
      clear hfi
      rcases i with _|i
      · simp only[aX,aY,aN,List.nil_append]
        repeat' (first
    |simp -implicitDefEqProofs only[↓reduceIte,aA,aC,facts,Nat.reduceAdd,Nat.reduceEqDiff,Nat.reduceLT,Nat.reduceLeDiff,Int.reduceLE,Int.reduceBNe,Int.reduceNeg,Int.reduceAdd,gI,cO,List.flatMap_cons,List.flatMap_nil,AV.cells,true_or,AV.one,aH.av,Sc.av,wrap_in,nG,aT,bF,aU,aV,dB,aW, *]
    |((with_reducible refine aF (fun _=>?_) (fun _=>?_))<;>try omega)
    |((with_reducible refine aO ?_);refine bM (by decide+kernel) ?_)
    |((with_reducible refine dP ?_ ?_);· decide+kernel)
    | ((with_reducible refine aS 9 ?_);refine PC.useZ hF hap (rfl) fun v hv=>?_;subst hv))
        refine dN 0 (t2,bs++[b2]) hlt rfl ⟨by omega,hf2.s,by rw[List.length_append,hbl];rfl,by rw[bQ.down,if_pos rfl]⟩ (dS 21 [(3024,2000,1)]) (xZ 21 [(3024,2000,1)]) (dH.seg (by simp [oH]) (by omega) rfl) ?_ rfl ?_
        · have hb0:bs=[]:=List.length_eq_zero_iff.1 hbl
          subst hb0
          exact aG.cons 3024 rfl rfl rfl (aG.cons 15 rfl rfl rfl (aG.cons 9 rfl rfl rfl (aG.cons 1 rfl rfl rfl (aG.cons 0 rfl rfl rfl aG.nil))))
        · simp [Fr.renF,kF,fD,tN,Nat.beq,AV.ren,dS,jJ,iR,(wrap_in (by decide):IntKind.i64.wrap 1=1)]
      · have hfl:(bs.flatMap aH.cells13).length=(i+1)*13:=by rw[Uf,hbl]
        have hcap:(i+1+1)*176<=140737488355328:=by omega
        simp only[dY,bJ,aK,aN,List.nil_append,List.cons_append]
        repeat' (first
    |simp -implicitDefEqProofs only[↓reduceIte,aA,aC,facts,Nat.reduceAdd,Nat.reduceEqDiff,Nat.reduceLT,Nat.reduceLeDiff,Int.reduceBNe,gI,cO,List.flatMap_cons,List.flatMap_nil,AV.cells,AV.one,aH.av,Sc.av,nG,bF,aU,aV,dB,aW, *]
    |((with_reducible refine aO ?_);refine bM (by decide+kernel) ?_)
    |((with_reducible refine dP ?_ ?_);· decide+kernel)
    | ((with_reducible refine aS 9 ?_);refine PC.useZ hF hap (rfl) fun v hv=>?_;subst hv))
        refine dN (i+1) (t2,bs++[b2]) hlt rfl ⟨by omega,hf2.s,by rw[List.length_append,hbl];rfl,by rw[bQ.down,if_pos rfl]⟩ (dS 21 [(3024,2000,1)]) (xZ 21 [(3024,2000,1)]) (dH.seg (by simp [oH]) (by omega) rfl) ?_ rfl ?_
        · refine aG.eqR (t:=(2000,.cells ((bs++[b2]).flatMap aH.cells13))::(15,.cells [.str t2.title,.sl 14 (t2.bars.map Ba.av) .none,.sl 5 (t2.parts.map Pa.av) .none])::[(9,.cells [.int .i64 s.checkR.1.1,.int .i64 s.checkR.1.2.1,.int .i64 s.checkR.1.2.2.1,.int .i64 s.checkR.1.2.2.2]),(1,.cells [.str ⟨#[]⟩,.sl 14 [] .full,.sl 5 [] .full]),(0,.cells [.str s.title,.sl 14 (s.bars.map Ba.av) .none,.sl 5 (s.parts.map Pa.av) .none])]) ?_ rfl
          refine aG.cons 3024 rfl rfl ?_ (aG.cons 15 rfl rfl rfl (aG.cons 9 rfl rfl rfl (aG.cons 1 rfl rfl rfl (aG.cons 0 rfl rfl rfl aG.nil))))
          rw[List.map_append,jR (c:=aH.cells13) (fun _=>rfl),List.flatMap_append];simp [aH.cells13,AV.ren]
        · simp [Fr.renF,kF,fD,tN,Nat.beq,AV.ren,dS,jJ,iR,hwr]
  · have he:i=l.length:=by omega
    have hrx:jP s l []=(0,t,bs,bs.length):=by rw[hQ,he,List.drop_length];rfl
    rw[hrx]
    rcases i with _|i
    · have hb0:bs=[]:=List.length_eq_zero_iff.1 hbl
      have hl0:l=[]:=List.length_eq_zero_iff.1 he.symm
      subst hb0;subst hl0
      clear hQ hrx he
      simp only[aX,aY,aN,List.nil_append,List.map_nil,List.length_nil]
      repeat' (first
    |simp -implicitDefEqProofs only[↓reduceIte,aA,aC,facts,Nat.reduceAdd,Nat.reduceEqDiff,Nat.reduceSub,Int.reduceLT,Int.reduceLE,Int.reduceNeg,Int.reduceSub,AV.cells,AV.one,wrap_in,zM,aT, *]
    |((with_reducible refine aS 17 ?_);(refine iI hF hro mix names 2 (fn:=Tryz.f17) Tryz.func17 rfl ?_;simp only[Tryz.ntmps17,Tryz.results17,aJ,Nat.reduceAdd,Nat.reduceSub]))
    | ((with_reducible refine aAq ?_);refine Cm 1 ?_))
      exact⟨_,vC,6,rfl,rfl⟩
    · have hnl:l.length=i+1:=he.symm
      have hfl:(bs.flatMap aH.cells13).length=(i+1)*13:=by rw[Uf,hbl]
      simp only[dY,bJ,aK,aN,List.nil_append,List.cons_append]
      clear hQ he hrx
      repeat' (first
    |simp -implicitDefEqProofs only[↓reduceIte,aA,aC,facts,Nat.reduceAdd,AV.cells,aT, *]
    |((with_reducible refine aF (fun _=>?_) (fun _=>?_))<;>try omega)
    | ((with_reducible refine aS 17 ?_);(refine iI hF hro mix names 3 (fn:=Tryz.f17) Tryz.func17 rfl ?_;simp only[Tryz.ntmps17,Tryz.results17,aJ,Nat.reduceAdd,Nat.reduceSub])))
      refine jV (fD 28 [0,2,3]) 4000 (i+2) (fun j (_:Unit)=>⟨[.msl 2000 0 (i+1) 13,.ud,.int .i64 (j:Nat),.int .i64 ((i - j:Nat):Int),.ud,.ud,.ud,.ud,.ud,.ud,.ud,.ud,.ud,.ud,.ud,.ud,.ud,.ud,.ud,.ud,.ud,.ud,.ud,.ud,.ud,.ud,.ud,.ud],[]⟩) (fun j _=>⟨(2000,.cells ((kX bs j).flatMap aH.cells13))::[(15,.cells [.str t.title,.sl 14 (t.bars.map Ba.av) .none,.sl 5 (t.parts.map Pa.av) .none]),(9,.cells [.int .i64 s.checkR.1.1,.int .i64 s.checkR.1.2.1,.int .i64 s.checkR.1.2.2.1,.int .i64 s.checkR.1.2.2.2]),(1,.cells [.str ⟨#[]⟩,.sl 14 [] .full,.sl 5 [] .full]),(0,.cells [.str s.title,.sl 14 (s.bars.map Ba.av) .none,.sl 5 (s.parts.map Pa.av) .none])],4000⟩) (fun j _=>2*j<=i+1) ⟨(),by omega,bI 3007 [],gK 3007 [],dH.of_fit rfl rfl rfl,?_,rfl,?_⟩ ?_
      · rw[aUb]
        exact aG.cons 2000 rfl rfl (jR (c:=aH.cells13) (fun _=>rfl) _) (aG.cons 15 rfl rfl rfl (aG.cons 9 rfl rfl rfl (aG.cons 1 rfl rfl rfl (aG.cons 0 rfl rfl rfl aG.nil))))
      · simp [Fr.renF,kF,fD,tN,Nat.beq,AV.ren,bI]
        exact wrap_in (by omega)
      rintro j x hj hj2
      by_cases hjl:2*j+1<i+1
      · have hjn:j< (kX bs j).length:=by rw[lY];omega
        have hkn:i - j< (kX bs j).length:=by rw[lY];omega
        have e1:bs.length - 1 - j=i - j:=by omega
        have hnx:=aLi (l:=bs) (i:=j) (by omega)
        simp only[e1] at hnx
        have hdx:=Ob (c:=aH.cells13) (k:=13) Wp (kX bs j) j hjn
        have hdy:=Ob (c:=aH.cells13) (k:=13) Wp (kX bs j) (i - j) hkn
        have hp1:=Ip (c:=aH.cells13) (k:=13) Wp (kX bs j) j hjn (kX bs j)[i - j]
        have hp2:=Ip (c:=aH.cells13) (k:=13) Wp ((kX bs j).set j (kX bs j)[i - j]) (i - j) (by rw[List.length_set];exact hkn) (kX bs j)[j]
        rw[hnx] at hp2
        obtain⟨x1,hx1⟩: ∃x,(kX bs j)[j]=x:=⟨_,rfl⟩
        obtain⟨y1,hy1⟩: ∃x,(kX bs j)[i - j]=x:=⟨_,rfl⟩
        rw[hx1] at hdx hp2
        rw[hy1] at hdy hp1 hp2
        have hBl:((kX bs j).flatMap aH.cells13).length=(i+1)*13:=by rw[Uf,lY,hbl]
        have hB1l:(((kX bs j).set j y1).flatMap aH.cells13).length=(i+1)*13:=by rw[Uf,List.length_set,lY,hbl]
        obtain⟨B,hB⟩: ∃B,(kX bs j).flatMap aH.cells13=B:=⟨_,rfl⟩
        obtain⟨B1,hB1⟩: ∃B,((kX bs j).set j y1).flatMap aH.cells13=B:=⟨_,rfl⟩
        obtain⟨B2,hB2⟩: ∃B,(kX bs (j+1)).flatMap aH.cells13=B:=⟨_,rfl⟩
        rw[hB] at hdx hdy hp1 hBl ⊢
        rw[hB1] at hp1 hp2 hB1l
        rw[hB2] at hp2
        simp only[aH.cells13] at hdx hdy hp1 hp2
        have bB2:=PLift.up hB2
        have bfl:=PLift.up hbl
        clear hB hB1 hB2 hx1 hy1 hnx hbl hfl e1
        have k1:((j:Nat):Int)< ((i+1:Nat):Int):=by omega
        have k2:((i - j:Nat):Int)< ((i+1:Nat):Int):=by omega
        have k3:((j:Nat):Int)< ((i - j:Nat):Int):=by omega
        have k4:j*13<=(i+1)*13:=by omega
        have k5:j*13+13<=(i+1)*13:=by omega
        have k6:(i - j)*13<=(i+1)*13:=by omega
        have k7:(i - j)*13+13<=(i+1)*13:=by omega
        have k8:13<=(i+1)*13 - j*13:=by omega
        have k9:13<=(i+1)*13 - (i - j)*13:=by omega
        have hwj:IntKind.i64.wrap ((j:Int)+1)=((j+1:Nat):Int):=by rw[wrap_in (by omega)];rfl
        have hwk:IntKind.i64.wrap (((i - j:Nat):Int) - 1)=((i - (j+1):Nat):Int):=by rw[wrap_in (by omega)];omega
        repeat' (first
    |simp -implicitDefEqProofs only[↓reduceIte,aA,aC,facts,Nat.reduceAdd,AV.cells,AV.one,List.length_drop,Int.natCast_nonneg,bF,aU,aV,dB,aW, *]
    |((with_reducible refine aO ?_);refine bM (by decide+kernel) ?_)
    | ((with_reducible refine dP ?_ ?_);· decide+kernel))
        rw[<-bB2.down]
        refine dN j () (by omega) rfl (by omega) (bI 3007 []) (gK 3007 []) (dH.of_fit rfl rfl rfl) (aG.cons 2000 rfl rfl (jR (c:=aH.cells13) (fun _=>rfl) _) (aG.cons 15 rfl rfl rfl (aG.cons 9 rfl rfl rfl (aG.cons 1 rfl rfl rfl (aG.cons 0 rfl rfl rfl aG.nil))))) rfl ?_
        simp [Fr.renF,kF,fD,tN,Nat.beq,AV.ren,bI,hwj,hwk]
      · have hre:kX bs j=bs.reverse:=aOw (by omega)
        rw[hre]
        have k3: ¬((j:Nat):Int)< ((i - j:Nat):Int):=by omega
        have bbl:=PLift.up hbl
        clear hbl hfl
        repeat' (simp -implicitDefEqProofs only[↓reduceIte,aA,aC,facts,Nat.reduceAdd,Nat.reduceEqDiff,AV.cells,AV.one,zM,aT, *])
        refine⟨_,Xx,6,rfl,?_⟩
        simp only[List.map_cons,List.map_nil]
        rw[pJ (hp:=hget _) (key:=2000) (n:=i+1) (k:=13) (cs:=bs.reverse.flatMap aH.cells13) (cs':=bs.reverse.flatMap aH.cells13) (by simp [hget]) (by decide) (lV (c:=aH.cells13) (fun _=>rfl) _) (by rw[Uf,List.length_reverse,bbl.down];exact Nat.le_refl _) (kZ (fun _=>rfl) _)]
        have hch:=lI (c:=aH.cells13) (k:=13) Wp bs.reverse
        rw[List.length_reverse,bbl.down] at hch
        rw[show(!(Nat.beq 13 1)||Xx 2000)=true from rfl,hch,xE]
        rfl
theorem Wq (s:Sc) (l:List aH) (hs:s.fine) (hl: ∀o∈l,o.fine) (hn:l.length<=1000000):PC Tryz.prog gl 7 [s.av,tY l] (fun v=>v=xE (nJ s l)):=by
 by_cases hc:s.checkR.2=0
 ·exact aV5 s l hs hl hn hc
 ·exact aHs s l hs hc
abbrev RunA:=Int×Sc×List aH×Nat
theorem aEr (b:List aH): ∀(a:List aH) (s:Sc) (bs:List aH),jP s (a++b) bs=if(jP s a bs).1=0 then jP (jP s a bs).2.1 b (jP s a bs).2.2.1 else jP s a bs
 |[],s,bs=>rfl
 |o::a,s,bs=>by
  rw[List.cons_append,jP,jP]
  split
  ·exact aEr b a _ _
  ·rename_i h;first|rfl|(rw[if_neg h])
structure aEb (r:RunA):Prop where
 ok:r.1=0->r.2.1.fine/\r.2.1.checkR.2=0/\r.2.2.2=r.2.2.1.length
 no:r.1≠0->r.2.1=zeroS/\r.2.2.1=[]
theorem aH8: ∀(l:List aH) (s:Sc) (bs:List aH),s.fine->s.checkR.2=0->(∀o∈l,o.fine)->aEb (jP s l bs)
 |[],s,bs,hs,hc,hl=>⟨fun _=>⟨hs,hc,rfl⟩,fun h=>absurd rfl h⟩
 | o::l,s,bs,hs,hc,hl=>by
  have ho:=hl o (.head _)
  rw[jP]
  split
  ·rename_i h
   have hto:=Xk s o hs ho
   rcases hto with⟨he,_⟩|⟨he,h1,h2,h3⟩
   ·exact absurd h he
   exact aH8 l _ _ (Bl hs ho h).s h2 fun x hx=>hl x (.tail _ hx)
  ·rename_i h
   exact⟨fun h2=>absurd h2 h,fun _=>⟨rfl,rfl⟩⟩
theorem aJm (s:Sc) (l:List aH) (hs:s.fine) (hl: ∀o∈l,o.fine):aEb (nJ s l):=by
 rw[nJ]
 split
 ·rename_i h;exact aH8 l s [] hs h hl
 ·rename_i h;exact⟨fun h2=>absurd h2 h,fun _=>⟨rfl,rfl⟩⟩
theorem aEb.same {r:RunA} (h:aEb r):PC Tryz.prog gl 8 [r.2.1.av,r.2.1.av] (fun v=>v= .bool true):=by
 by_cases h1:r.1=0
 ·obtain⟨h2,h3,_⟩:=h.ok h1
  exact aJa _ (Lu (mO h3) h2.sm fun b hb=>(h2.sh b hb).e)
 ·rw[(h.no h1).1]
  exact aI9 zeroS (Nat.zero_le _) (fun _ h=>nomatch h) (Nat.zero_le _) (fun _ h=>nomatch h)
theorem Oc {s:Sc} (hs:s.fine) (hc:s.checkR.2=0):PC Tryz.prog gl 8 [s.av,s.av] (fun v=>v= .bool true):=aJa _ (Lu (mO hc) hs.sm fun b hb=>(hs.sh b hb).e)
end Go.Proofs.Pv
