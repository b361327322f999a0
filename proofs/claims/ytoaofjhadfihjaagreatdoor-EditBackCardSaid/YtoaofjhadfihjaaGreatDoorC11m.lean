/-
Layer 9's edits: pitches and keys that go up.
Conditions: none but those that each statement names.
-/
import Derived.Test.YtoaofjhadfihjaaGreatDoorC08s
import Derived.Test.YtoaofjhadfihjaaGreatDoorC08e
import Derived.Test.YtoaofjhadfihjaaGreatDoorC09a
import Derived.Test.YtoaofjhadfihjaaGreatDoorD08
import Derived.Test.YtoaofjhadfihjaaGreatDoorC11i
set_option linter.unusedVariables false
set_option linter.unusedSimpArgs false
set_option maxRecDepth 100000
set_option maxHeartbeats 16000000
namespace Go.Proofs.Pv
open Go Go.Proofs
theorem Yv (p:Pi) (h:0<=p.step/\p.step<7/\ -1000<=p.octave/\p.octave<=1000/\ -1000<=p.alter/\p.alter<=1000):PC Tryz.prog gl 140 [p.av] (fun w=>w= .int .i64 p.number):=by
 obtain⟨h1,h2,h3,h4,h5,h6⟩:=h
 obtain⟨s,a,o⟩:=p
 simp only at h1 h2 h3 h4 h5 h6
 rcases aAt h1 h2 with rfl|rfl|rfl|rfl|rfl|rfl|rfl
 all_goals
  (refine PC.introY 1 mix (fn:=Tryz.f140) Tryz.func140 rfl (names 140 _ Tryz.func140) fun F hF hro W=>?_;simp only[Tryz.ntmps140,Tryz.results140,aJ,Nat.reduceAdd,Nat.reduceSub])
  repeat' (first
  |simp -implicitDefEqProofs (maxSteps:=9999999) (disch:=first|assumption|omega) only[aA,aC,facts,if_pos,Nat.reduceAdd,Nat.reduceLeDiff,Int.reduceToNat,Pi.av,wrap_in, *]
  |((with_reducible refine fQ ?_);refine gZ _ rfl (by decide+kernel) ?_))
  simp [Pi.number,half]
def Pi.upq (p:Pi) (st:Int):Pi:=⟨(p.line+st+7).tmod 7,0,(p.line+st+7).tdiv 7 - 1⟩
def Pi.up (p:Pi) (st ha:Int):Pi×Int:=
 if¬(p.right=true/\ -77<=st/\st<=77/\ -254<=ha/\ha<=254) then(⟨0,0,0⟩,20) else
 if p.line+st+7<0 then(⟨0,0,0⟩,20) else
 if(⟨(p.upq st).step,p.number+ha - (p.upq st).number,(p.upq st).octave⟩:Pi).right=true then(⟨(p.upq st).step,p.number+ha - (p.upq st).number,(p.upq st).octave⟩,0) else(⟨0,0,0⟩,20)
def uK (st ha:Int):AV:= .agg [.int .i64 st,.int .i64 ha]
theorem aJm (p:Pi) (st ha:Int):PC Tryz.prog gl 131 [p.av,uK st ha] (fun w=>w= .tup [(p.up st ha).1.av,.int .i64 (p.up st ha).2]):=by
  by_cases h0:p.right=true/\ -77<=st/\st<=77/\ -254<=ha/\ha<=254
  · obtain⟨h1,h2,h3,h4,h5⟩:=h0
    have hf:p.fits=true:=by simp only[Pi.right,Bool.and_eq_true] at h1;exact h1.1
    have hf2:=hf
    simp only[Pi.fits,decide_eq_true_eq] at hf2
    have hl: -7<=p.line/\p.line<=69:=by simp only[Pi.line];omega
    have hn: -100<=p.number/\p.number<=1000:=by simp only[Pi.number,half];split<;>omega
    by_cases hneg:p.line+st+7<0
    · rw[show p.up st ha=(⟨0,0,0⟩,20) by rw[Pi.up,if_neg (fun h=>h ⟨h1,h2,h3,h4,h5⟩),if_pos hneg]]
      (refine PC.introY 1 mix (fn:=Tryz.f131) Tryz.func131 rfl (names 131 _ Tryz.func131) fun F hF hro W=>?_;simp only[Tryz.ntmps131,Tryz.results131,aJ,Nat.reduceAdd,Nat.reduceSub])
      repeat' (first
    |simp -implicitDefEqProofs (maxSteps:=9999999) (disch:=first|assumption|omega) only[aA,aC,facts,if_pos,if_neg,Nat.reduceAdd,Nat.reduceLeDiff,Int.reduceNeg,Int.reduceSub,Pi.av,uK,wrap_in, *]
    |((with_reducible refine jR 143 ?_);refine dK (Ae p hf) (rfl) ?_)
    |((with_reducible refine aF (fun _=>?_) (fun _=>?_))<;>try omega)
    |((with_reducible refine iP (fun _=>?_) (fun _=>?_))<;>try omega)
    |((with_reducible refine fQ ?_);refine gZ _ rfl (by decide+kernel) ?_)
    | ((with_reducible refine dI 108 ?_);refine PC.useY hF (nM p) (rfl) fun v hv=>?_;subst hv))
      all_goals rfl
    · have e7:p.line+st - -7=p.line+st+7:=by omega
      have hm:(p.line+st+7).tmod 7=(p.line+st+7) % 7:=Int.tmod_eq_emod_of_nonneg (by omega)
      have hd:(p.line+st+7).tdiv 7=(p.line+st+7) / 7:=Int.tdiv_eq_ediv_of_nonneg (by omega)
      have hq:0<=(p.upq st).step/\(p.upq st).step<7/\ -1<=(p.upq st).octave/\(p.upq st).octave<=100:=by simp only[Pi.upq,hm,hd];omega
      have hqn: -100<=(p.upq st).number/\(p.upq st).number<=2000:=by simp only[Pi.number,half];rw[show(p.upq st).alter=0 from rfl];split<;>omega
      obtain⟨q0,hq0⟩: ∃q0,p.upq st=q0:=⟨_,rfl⟩
      have a0:q0.alter=0:=by rw[<-hq0];rfl
      have a1:q0.step=(p.line+st+7) % 7:=by rw[<-hq0,<-hm];rfl
      have a2:q0.octave=(p.line+st+7) / 7+ -1:=by rw[<-hq0,<-hd];rfl
      rw[hq0] at hq hqn
      have hnum:=Yv q0 (by omega)
      have hup:p.up st ha=if(⟨q0.step,p.number+ha - q0.number,q0.octave⟩:Pi).right=true then(⟨q0.step,p.number+ha - q0.number,q0.octave⟩,0) else(⟨0,0,0⟩,20):=by rw[Pi.up,if_neg (fun h=>h ⟨h1,h2,h3,h4,h5⟩),if_neg hneg,hq0]
      rw[hup]
      have hrt:=nM ⟨q0.step,p.number+ha - q0.number,q0.octave⟩
      simp only[Pi.av] at hnum hrt
      rw[a0,a1,a2] at hnum
      rw[a1,a2] at hrt
      (refine PC.introY 1 mix (fn:=Tryz.f131) Tryz.func131 rfl (names 131 _ Tryz.func131) fun F hF hro W=>?_;simp only[Tryz.ntmps131,Tryz.results131,aJ,Nat.reduceAdd,Nat.reduceSub])
      repeat' (first
    |simp -implicitDefEqProofs (maxSteps:=9999999) (disch:=first|assumption|omega) only[aA,aC,facts,if_pos,if_neg,Nat.reduceAdd,Nat.reduceEqDiff,Nat.reduceLeDiff,Int.reduceNeg,Int.reduceSub,Pi.av,uK,wrap_in,e7, *]
    |((with_reducible refine jR 143 ?_);refine dK (Ae p hf) (rfl) ?_)
    |((with_reducible refine w_at 140 ?_);refine iZ (xP p hf) (rfl) ?_)
    |((with_reducible refine w_at 140 ?_);refine iZ hnum (rfl) ?_)
    |((with_reducible refine aF (fun _=>?_) (fun _=>?_))<;>try omega)
    |((with_reducible refine dS (fun _=>?_) (fun _=>?_))<;>try omega)
    |((with_reducible refine iP (fun _=>?_) (fun _=>?_))<;>try omega)
    |((with_reducible refine fQ ?_);refine gZ _ rfl (by decide+kernel) ?_)
    |((with_reducible refine fQ ?_);refine Xy (by decide+kernel) ?_)
    |((with_reducible refine dP ?_ ?_);· decide+kernel)
    |((with_reducible refine dI 108 ?_);refine PC.useY hF (nM p) (rfl) fun v hv=>?_;subst hv)
    |((with_reducible refine dI 108 ?_);refine PC.useY hF hrt (rfl) fun v hv=>?_;subst hv))
  · rw[show p.up st ha=(⟨0,0,0⟩,20) by rw[Pi.up,if_pos h0]]
    by_cases h1:p.right=true
    · have h2: ¬(-77<=st/\st<=77/\ -254<=ha/\ha<=254):=fun h=>h0 ⟨h1,h⟩
      (refine PC.introY 1 mix (fn:=Tryz.f131) Tryz.func131 rfl (names 131 _ Tryz.func131) fun F hF hro W=>?_;simp only[Tryz.ntmps131,Tryz.results131,aJ,Nat.reduceAdd,Nat.reduceSub])
      repeat' (first
    |simp -implicitDefEqProofs (maxSteps:=9999999) (disch:=first|assumption|omega) only[aA,aC,facts,if_pos,Nat.reduceAdd,Nat.reduceLeDiff,Int.reduceNeg,Int.reduceSub,Pi.av,uK,wrap_in, *]
    |((with_reducible refine aF (fun _=>?_) (fun _=>?_))<;>try omega)
    |((with_reducible refine iP (fun _=>?_) (fun _=>?_))<;>try omega)
    | ((with_reducible refine dI 108 ?_);refine PC.useY hF (nM p) (rfl) fun v hv=>?_;subst hv))
      all_goals rfl
    · have h1:p.right=false:=by simpa using h1
      (refine PC.introY 1 mix (fn:=Tryz.f131) Tryz.func131 rfl (names 131 _ Tryz.func131) fun F hF hro W=>?_;simp only[Tryz.ntmps131,Tryz.results131,aJ,Nat.reduceAdd,Nat.reduceSub])
      repeat' (first
    |simp -implicitDefEqProofs (maxSteps:=9999999) (disch:=first|assumption|omega) only[aA,aC,facts,if_pos,Nat.reduceAdd,Int.reduceNeg,Pi.av,uK, *]
    | ((with_reducible refine dI 108 ?_);refine PC.useY hF (nM p) (rfl) fun v hv=>?_;subst hv))
      all_goals rfl
def Ke.up (k:Ke) (st ha:Int):Ke×Int:=
 if k.right=true then(if(⟨k.fifths+7*ha - 12*st,k.minor⟩:Ke).right=true then(⟨k.fifths+7*ha - 12*st,k.minor⟩,0) else(⟨0,false⟩,30)) else(⟨0,false⟩,30)
theorem aJn (k:Ke) (st ha:Int) (h: -70<=st/\st<=70/\ -120<=ha/\ha<=120):PC Tryz.prog gl 65 [k.av,uK st ha] (fun w=>w= .tup [(k.up st ha).1.av,.int .i64 (k.up st ha).2]):=by
 by_cases h1:k.right=true
 ·have hf: -7<=k.fifths/\k.fifths<=7:=by simpa [Ke.right] using h1
  have hrt:=Be ⟨k.fifths+7*ha - 12*st,k.minor⟩
  have hrk:=Be k
  rw[Ke.up,if_pos h1]
  simp only[Ke.av] at hrt hrk
  rw[h1] at hrk
  (refine PC.introY 1 mix (fn:=Tryz.f65) Tryz.func65 rfl (names 65 _ Tryz.func65) fun F hF hro W=>?_;simp only[Tryz.ntmps65,Tryz.results65,aJ,Nat.reduceAdd,Nat.reduceSub])
  repeat' (first
  |simp -implicitDefEqProofs (maxSteps:=9999999) (disch:=first|assumption|omega) only[aA,aC,facts,if_pos,Nat.reduceAdd,Nat.reduceLeDiff,Int.reduceNeg,Ke.av,uK,wrap_in, *]
  |((with_reducible refine aF (fun _=>?_) (fun _=>?_))<;>try omega)
  |((with_reducible refine dS (fun _=>?_) (fun _=>?_))<;>try omega)
  |((with_reducible refine iP (fun _=>?_) (fun _=>?_))<;>try omega)
  |((with_reducible refine dI 73 ?_);refine PC.useY hF hrk (rfl) fun v hv=>?_;subst hv)
  |((with_reducible refine dI 73 ?_);refine PC.useY hF hrt (rfl) fun v hv=>?_;subst hv))
  all_goals simp_all [Ke.av]
 ·have hrk:=Be k
  have h1:k.right=false:=by simpa using h1
  rw[Ke.up,if_neg (by simp [h1])]
  simp only[Ke.av] at hrk
  (refine PC.introY 1 mix (fn:=Tryz.f65) Tryz.func65 rfl (names 65 _ Tryz.func65) fun F hF hro W=>?_;simp only[Tryz.ntmps65,Tryz.results65,aJ,Nat.reduceAdd,Nat.reduceSub])
  repeat' (first
  |simp -implicitDefEqProofs (maxSteps:=9999999) (disch:=first|assumption|omega) only[aA,aC,facts,if_pos,Nat.reduceAdd,Int.reduceNeg,Ke.av,uK, *]
  |((with_reducible refine dI 73 ?_);refine PC.useY hF hrk (rfl) fun v hv=>?_;subst hv))
  all_goals simp_all [Ke.av]
def ev0:Ev:=⟨0,[],[],⟨0,0,0,0⟩,[],⟨#[]⟩⟩
def Bi (st ha:Int) (l:List Pi):Bool:=l.any fun p=>!decide ((p.up st ha).2=0)
def Ev.upE (e:Ev) (st ha:Int):Ev:= {e with pitches:=e.pitches.map fun p=>(p.up st ha).1}
def Ev.up (e:Ev) (st ha:Int):Ev×Int:=
 if e.right=true then(if Bi st ha e.pitches=true then(ev0,20) else if(e.upE st ha).right=true then(e.upE st ha,0) else(ev0,60)) else(ev0,60)
theorem aMr (p:Pi) (st ha:Int):(p.up st ha).2=0\/(p.up st ha).2=20:=by
 unfold Pi.up
 repeat' split
 all_goals simp
theorem aG.tk {f:Nat->Option Nat} {h t:List (Nat×aI)} {k:Nat} (K:Nat) (hk:hget h K=some .tok) (hf:f K=some k) (ht:aG f h t):aG f h ((k,.tok)::t):=by
 intro k' b' h'
 simp only[hget] at h'
 split at h'
 ·rename_i e
  simp only[Option.some.injEq] at h'
  subst e;subst h'
  exact⟨K,.tok,hf,hk,rfl⟩
 ·exact ht k' b' h'
theorem aMs {st ha:Int} {l:List Pi} {i:Nat} (h:i<l.length) (hx:(l[i].up st ha).2≠0):Bi st ha l=true:=by
 unfold Bi
 rw[List.any_eq_true]
 exact⟨l[i],List.getElem_mem h,by simpa using hx⟩
theorem aPx {st ha:Int} {l:List Pi} (h: ∀j (hj:j<l.length),(l[j].up st ha).2=0):Bi st ha l=false:=by
 unfold Bi
 rw[List.any_eq_false]
 intro p hp
 obtain⟨j,hj,rfl⟩:=List.getElem_of_mem hp
 simp [h j hj]
def upC (e:Ev) (a:AV):List AV:=[.int .i64 e.kind,a,.sl 1 (e.ties.map AV.bool) .none,.int .i64 e.value.base,.int .i64 e.value.dots,.int .i64 e.value.num,.int .i64 e.value.den,.sl 1 (e.marks.map (AV.int .i64)) .none,.str e.word]
def upL (e:Ev) (st ha:Int):List (Nat×aI):=[(2,.cells [.int .i64 0,.sl 3 [] .full,.sl 1 [] .full,.int .i64 0,.int .i64 0,.int .i64 0,.int .i64 0,.sl 1 [] .full,.str ⟨#[]⟩]),(1,.cells [.int .i64 st,.int .i64 ha]),(0,.cells (upC e (.sl 3 (e.pitches.map Pi.av) .none)))]
def Zj (e:Ev) (st ha:Int):Nat->List (Nat×aI)
 |0=>(7,.cells (upC e (.sl 3 [] .full)))::upL e st ha
 |i+1=>(100,.tok)::(7,.cells (upC e (.sl 3 ((e.pitches.take (i+1)).map fun p=>(p.up st ha).1.av) (.tok 100))))::upL e st ha
theorem aJ1 (e:Ev) (st ha:Int) (hsm:e.small):PC Tryz.prog gl 101 [e.av,uK st ha] (fun w=>w= .tup [(e.up st ha).1.av,.int .i64 (e.up st ha).2]):=by
  have hr:=vM e hsm
  by_cases h1:e.right=true
  · have hct:=Ik e.ties hsm.2.1
    have hcm:=sG e.marks hsm.2.2
    rw[h1] at hr
    simp only[Ev.av] at hr
    rw[Ev.up,if_pos h1]
    (refine PC.introZ 2 mix (fn:=Tryz.f101) Tryz.func101 rfl (names 101 _ Tryz.func101) fun F hF hro W=>?_;simp only[Tryz.ntmps101,Tryz.results101,aJ,Nat.reduceAdd,Nat.reduceSub])
    repeat' (first
    |simp -implicitDefEqProofs (maxSteps:=9999999) only[↓reduceIte,aA,aC,facts,Nat.reduceAdd,Nat.reduceEqDiff,Nat.reduceLeDiff,Ev.av,uK, *]
    |((with_reducible refine w_at 88 ?_);refine iZ hct (rfl) ?_)
    |((with_reducible refine w_at 81 ?_);refine iZ hcm (rfl) ?_)
    |((with_reducible refine aO ?_);refine jG (by decide+kernel) ?_)
    |((with_reducible refine dP ?_ ?_);· decide+kernel)
    |((with_reducible refine aS 69 ?_);refine PC.useZ hF hr (rfl) fun v hv=>?_;subst hv))
    have hlp:=hsm.1
    refine jU (fE 54 [2,3,4,5,6,26,27,28]) 101 e.pitches.length (fun i (_:Unit)=>⟨[.ud,.ud,.ptr 0 0,.ptr 1 0,.ptr 2 0,.int .i64 0,.ptr 7 0,.ud,.ud,.ud,.ud,.ud,.ud,.ud,.ud,.ud,.ud,.ud,.ud,.ud,.ud,.ud,.ud,.ud,.ud,.ud,.sl 3 (e.pitches.map Pi.av) .none,.int .i64 (e.pitches.length:Nat),.int .i64 (i:Nat),.ud,.ud,.ud,.ud,.ud,.ud,.ud,.ud,.ud,.ud,.ud,.ud,.ud,.ud,.ud,.ud,.ud,.ud,.ud,.ud,.ud,.ud,.ud,.ud,.ud],[]⟩) (fun i _=>⟨Zj e st ha i,101⟩) (fun i _=>i<1000001/\ ∀j (h:j<e.pitches.length),j<i->(e.pitches[j].up st ha).2=0) ⟨(),⟨by omega,fun j h hj=>by omega⟩,bI 25 [],gK 25 [],dH.of_fit rfl rfl rfl,aG.cons 7 rfl rfl rfl (aG.cons 2 rfl rfl rfl (aG.cons 1 rfl rfl rfl (aG.cons 0 rfl rfl rfl aG.nil))),rfl,rfl⟩ ?_
    rintro i x hi ⟨hi2,hQ⟩
    rcases Nat.lt_or_ge i e.pitches.length with hlt|hge
    · have hup:=aJm e.pitches[i] st ha
      have hgi:(e.pitches.map Pi.av)[i]?=some (Pi.av e.pitches[i]):=by rw[List.getElem?_map,List.getElem?_eq_getElem hlt];rfl
      have hg2:e.pitches[i]?=some e.pitches[i]:=List.getElem?_eq_getElem hlt
      generalize hpi:e.pitches[i]=q at hup hgi hg2
      simp only[Pi.av,uK] at hup
      obtain⟨u,x,hux⟩: ∃u x,q.up st ha=(u,x):=⟨_,_,rfl⟩
      rw[hux] at hup
      rcases i with _|i
      · simp only[Zj,upL,upC]
        repeat' (first
    |simp -implicitDefEqProofs (maxSteps:=9999999) only[↓reduceIte,aA,aC,facts,Nat.reduceAdd,Nat.reduceEqDiff,Nat.reduceLT,Nat.reduceLeDiff,Int.reduceLE,Int.reduceNeg,Int.reduceAdd,AV.cells,AV.one,wrap_in,Pi.av,aT,rE, *]
    |((with_reducible refine aF (fun _=>?_) (fun _=>?_))<;>try omega)
    |((with_reducible refine dL (fun _=>?_) (fun _=>?_))<;>try omega)
    | ((with_reducible refine aS 131 ?_);refine PC.useZ hF hup (rfl) fun v hv=>?_;subst hv))
        · have hb:Bi st ha e.pitches=true:=aMs hlt (by rw[hpi,hux];exact fun h=>by simp_all)
          have h20:x=20:=by
            have:=aMr q st ha
            rw[hux] at this
            rcases this with h|h
            · simp only at h;simp_all
            · exact h
          rw[if_pos hb,h20];rfl
        · have hx0:x=0:=by simp_all
          refine dN 0 () hlt (by omega) ⟨by omega,fun j h hj=>?_⟩ (bI 25 [(120,100)]) (gK 25 [(120,100)]) (dH.of_fit rfl rfl rfl) ?_ rfl rfl
          · rcases Nat.lt_or_ge j (0) with h9|h9
            · exact hQ j h h9
            · have:j=0:=by omega
              subst this
              rw[hpi,hux];exact hx0
          · refine aG.tk 120 rfl rfl (aG.cons 7 rfl rfl ?_ (aG.cons 2 rfl rfl rfl (aG.cons 1 rfl rfl rfl (aG.cons 0 rfl rfl rfl aG.nil))))
            simp only[List.take_succ_eq_append_getElem hlt,List.map_append,List.map_cons,List.map_nil,hpi,hux,List.take_zero,List.nil_append]
            rfl
      · have hcap:((List.take (i+1) e.pitches).length+1)*24<=140737488355328:=by rw[List.length_take];omega
        simp only[Zj,upL,upC]
        repeat' (first
    |simp -implicitDefEqProofs (maxSteps:=9999999) only[↓reduceIte,aA,aC,facts,Nat.reduceAdd,Nat.reduceEqDiff,Nat.reduceLT,Nat.reduceLeDiff,AV.cells,AV.one,Pi.av,aT,rE, *]
    |simp -implicitDefEqProofs (maxSteps:=9999999) (disch:=first|assumption|omega) only[wrap_in, *]
    |((with_reducible refine aF (fun _=>?_) (fun _=>?_))<;>try omega)
    |((with_reducible refine dL (fun _=>?_) (fun _=>?_))<;>try omega)
    | ((with_reducible refine aS 131 ?_);refine PC.useZ hF hup (rfl) fun v hv=>?_;subst hv))
        · have hb:Bi st ha e.pitches=true:=aMs hlt (by rw[hpi,hux];exact fun h=>by simp_all)
          have h20:x=20:=by
            have:=aMr q st ha
            rw[hux] at this
            rcases this with h|h
            · simp only at h;simp_all
            · exact h
          rw[if_pos hb,h20];rfl
        · have hx0:x=0:=by simp_all
          have hQ2:i+1+1<1000001/\ ∀j (h:j<e.pitches.length),j<i+1+1->(e.pitches[j].up st ha).2=0:=⟨by omega,fun j h hj=>by
            rcases Nat.lt_or_ge j (i+1) with h9|h9
            · exact hQ j h h9
            · have:j=i+1:=by omega
              subst this
              rw[hpi,hux];exact hx0⟩
          refine dN (i+1) () hlt rfl hQ2 (bI 25 [(120,100)]) (gK 25 [(120,100)]) (dH.of_fit rfl rfl rfl) ?_ rfl rfl
          · refine aG.tk 120 rfl rfl (aG.cons 7 rfl rfl ?_ (aG.cons 2 rfl rfl rfl (aG.cons 1 rfl rfl rfl (aG.cons 0 rfl rfl rfl aG.nil))))
            simp only[List.take_succ_eq_append_getElem hlt,List.map_append,List.map_cons,List.map_nil,hpi,hux,List.append_nil]
            rfl
    · have he:i=e.pitches.length:=by omega
      subst he
      have hnb:=aPx (st:=st) (ha:=ha) fun j hj=>hQ j hj hj
      have hmap:(e.pitches.map fun p=>(p.up st ha).1.av)=(e.upE st ha).pitches.map Pi.av:=by simp [Ev.upE]
      have hr2:=vM (e.upE st ha) ⟨by simp only[Ev.upE,List.length_map];exact hsm.1,hsm.2.1,hsm.2.2⟩
      rw[if_neg (by rw[hnb];decide)]
      simp only[Ev.av] at hr2
      rcases Nat.eq_zero_or_pos e.pitches.length with hn|hn
      · have hnil:e.pitches=[]:=List.length_eq_zero_iff.1 hn
        have hun:(e.upE st ha).pitches=[]:=by simp [Ev.upE,hnil]
        simp only[hun,List.map_nil] at hr2
        rw[show Zj e st ha e.pitches.length=Zj e st ha 0 by rw[hn]]
        simp only[Zj,upL,upC,hnil]
        repeat' (first
    |simp -implicitDefEqProofs (maxSteps:=9999999) only[↓reduceIte,aA,aC,facts,Nat.reduceAdd,Nat.reduceEqDiff,Nat.reduceSub,Int.reduceLT,AV.cells,AV.one,aT, *]
    |((with_reducible refine dS (fun _=>?_) (fun _=>?_))<;>try omega)
    | ((with_reducible refine aS 69 ?_);refine PC.useZ hF hr2 (rfl) fun v hv=>?_;subst hv))
        all_goals rfl
      · obtain⟨n,hn⟩: ∃n,e.pitches.length=n+1:=⟨e.pitches.length - 1,by omega⟩
        have htk:List.take (n+1) e.pitches=e.pitches:=by rw[<-hn,List.take_length]
        rw[show Zj e st ha e.pitches.length=Zj e st ha (n+1) by rw[hn]]
        simp only[Zj,upL,upC,htk]
        repeat' (first
    |simp -implicitDefEqProofs (maxSteps:=9999999) only[↓reduceIte,aA,aC,facts,Nat.reduceAdd,Nat.reduceEqDiff,AV.cells,AV.one,aT, *]
    |simp -implicitDefEqProofs (maxSteps:=9999999) (disch:=first|assumption|omega) only[*]
    |((with_reducible refine aF (fun _=>?_) (fun _=>?_))<;>try omega)
    |((with_reducible refine dS (fun _=>?_) (fun _=>?_))<;>try omega)
    | ((with_reducible refine aS 69 ?_);refine PC.useZ hF hr2 (rfl) fun v hv=>?_;subst hv))
        all_goals rfl
  · have h1:e.right=false:=by simpa using h1
    rw[h1] at hr
    simp only[Ev.av] at hr
    rw[Ev.up,if_neg (by simp [h1])]
    (refine PC.introZ 2 mix (fn:=Tryz.f101) Tryz.func101 rfl (names 101 _ Tryz.func101) fun F hF hro W=>?_;simp only[Tryz.ntmps101,Tryz.results101,aJ,Nat.reduceAdd,Nat.reduceSub])
    repeat' (first
    |simp -implicitDefEqProofs (maxSteps:=9999999) only[↓reduceIte,aA,aC,facts,Nat.reduceAdd,Nat.reduceEqDiff,Ev.av,uK, *]
    |((with_reducible refine aS 69 ?_);refine PC.useZ hF hr (rfl) fun v hv=>?_;subst hv))
    all_goals rfl
def TZ (ps:List Pa):List (Nat×aI):=hC (dW 22 (iV dJ 1020 ps))++hC (dW 1020 (deep dJ 1020 ps))
structure tH (ps:List Pa):Prop where
 n:ps.length<=400
 c:fM dJ ps<=900000
theorem aE4 (s:Sc):lU dJ s=TZ s.parts:=by
 rw[lU,scT,Gi,tY,nX,nX,Cc,Md];rfl
theorem yJ {ps:List Pa} (h:tH ps):iI 22 1000000 (TZ ps):=by
 have h1:=h.n
 have h2:=h.c
 exact iI.app ((iI.fam (m:=1000000) (by rw[iQ];omega)).wide (by omega) (Nat.le_refl _)) ((iI.fam (m:=1000000) (by rw[rY];omega)).wide (by omega) (Nat.le_refl _))
theorem aEa {ps:List Pa} (h:tH ps):rC dJ (hget (TZ ps)) 22 1020 ps:=by
 have h1:=h.n
 refine rC.of (fun q hq=>?_) fun q hq=>?_
 ·rw[TZ,bV,iM hq]
 ·rw[TZ,bV,vG (by rw[iQ];omega)];exact iM hq
theorem aE5: ∀(K:Nat) (l:List (List AV)) (q:Nat) (x:List AV),q<l.length->hset (hC (dW K l)) (K+q) (.cells x)=hC (dW K (l.set q x))
 |K,[],q,x,h=>by simp at h
 |K,y::l,0,x,h=>by simp [dW,hC,hset]
 |K,y::l,q+1,x,h=>by
  have ih:=aE5 (K+1) l q x (by simpa using h)
  rw[show K+1+q=K+(q+1) by omega] at ih
  simp only[hC] at ih
  simp only[dW,hC,List.map_cons,hset,List.set_cons_succ,ih]
  rw[if_neg (by omega)]
theorem aCq {k:Nat} {b:aI}: ∀ {A B:List (Nat×aI)},hget A k=none->hset (A++B) k b=A++hset B k b
 |[],B,h=>rfl
 | (q,x)::A,B,h=>by
  simp only[hget] at h
  split at h
  ·cases h
  ·rename_i hne
   simp only[List.cons_append,hset,if_neg hne,aCq h]
theorem aCr: ∀(K:Nat) (c:List Vo) (v:Nat) (w:Vo) (h:v<c.length),w.l.length=c[v].l.length->lG K (c.set v w)=lG K c
 |K,[],v,w,h,_=>by simp at h
 |K,x::c,0,w,h,hl=>by
  simp only[List.getElem_cons_zero] at hl
  simp only[List.set_cons_zero,lG,hl]
 |K,x::c,v+1,w,h,hl=>by
  simp only[List.getElem_cons_succ] at hl
  simp only[List.set_cons_succ,lG,aCr (K+1) c v w (by simpa using h) hl]
theorem Su: ∀(K:Nat) (cs:List (List Vo)) (b:Nat) (c:List Vo) (h:b<cs.length),c.length=cs[b].length->eH dJ K (cs.set b c)=eH dJ K cs/\cnt dJ (cs.set b c)=cnt dJ cs
 |K,[],b,c,h,_=>by simp at h
 |K,x::cs,0,c,h,hl=>by
  simp only[List.getElem_cons_zero] at hl
  simp only[List.set_cons_zero,eH,cnt,dJ,Zw,hl,and_self]
 |K,x::cs,b+1,c,h,hl=>by
  simp only[List.getElem_cons_succ] at hl
  have ih:=Su (K+dJ.sz x) cs b c (by simpa using h) hl
  simp only[List.set_cons_succ,eH,cnt,ih.1,ih.2,and_self]
theorem aIn: ∀(K:Nat) (cs:List (List Vo)) (b v:Nat) (w:Vo) (h:b<cs.length) (hv:v<cs[b].length),w.l.length=cs[b][v].l.length->csB dJ K (cs.set b (cs[b].set v w))=(csB dJ K cs).set (cnt dJ (cs.take b)+(v+1)) (wV w)
 |K,[],b,v,w,h,hv,_=>by simp at h
 |K,x::cs,0,v,w,h,hv,hl=>by
  simp only[List.getElem_cons_zero] at hl hv ⊢
  have hlen:(x.set v w).length=x.length:=List.length_set
  simp only[List.set_cons_zero,csB,dJ,Zw,hlen,List.take_zero,cnt,Nat.zero_add,List.cons_append,List.set_cons_succ,aCr (K+1) x v w hv hl]
  rw[List.set_append_left _ _ (by simpa using hv),List.map_set]
 |K,x::cs,b+1,v,w,h,hv,hl=>by
  simp only[List.getElem_cons_succ] at hl hv ⊢
  have ih:=aIn (K+dJ.sz x) cs b v w (by simpa using h) hv hl
  simp only[List.set_cons_succ,csB,ih,List.take_succ_cons,cnt]
  rw[List.set_append_right _ _ (by rw[dJ.len];omega),dJ.len,show dJ.sz x+cnt dJ (cs.take b)+(v+1) - dJ.sz x=cnt dJ (cs.take b)+(v+1) by omega]
theorem aMv: ∀(D:Nat) (ps:List Pa) (j:Nat) (p:Pa) (q:Nat) (x:List AV) (h:j<ps.length),(∀K,eH dJ K p.cells=eH dJ K ps[j].cells)->cnt dJ p.cells=cnt dJ ps[j].cells->p.dyns=ps[j].dyns->q<cnt dJ ps[j].cells->(∀K,csB dJ K p.cells=(csB dJ K ps[j].cells).set q x)->
  iV dJ D (ps.set j p)=iV dJ D ps/\deep dJ D (ps.set j p)=(deep dJ D ps).set (eQ dJ ps j+q) x/\fM dJ (ps.set j p)=fM dJ ps
 |D,[],j,p,q,x,h,_,_,_,_,_=>by simp at h
 |D,y::ps,0,p,q,x,h,h1,h2,h3,h4,h5=>by
  simp only[List.getElem_cons_zero] at h1 h2 h3 h4 h5
  refine⟨by simp only[List.set_cons_zero,iV,h1,h2,h3],?_,by simp only[List.set_cons_zero,fM,h2]⟩
  simp only[List.set_cons_zero,deep,h5,h2,eQ,List.take_zero,fM,Nat.zero_add]
  rw[List.set_append_left _ _ (by rw[kM];exact h4)]
 |D,y::ps,j+1,p,q,x,h,h1,h2,h3,h4,h5=>by
  simp only[List.getElem_cons_succ] at h1 h2 h3 h4 h5
  obtain⟨i1,i2,i3⟩:=aMv (D+cnt dJ y.cells) ps j p q x (by simpa using h) h1 h2 h3 h4 h5
  refine⟨by simp only[List.set_cons_succ,iV,i1],?_,by simp only[List.set_cons_succ,fM,i3]⟩
  simp only[List.set_cons_succ,deep,i2,Bv]
  rw[List.set_append_right _ _ (by rw[kM];omega),kM,show cnt dJ y.cells+eQ dJ ps j+q - cnt dJ y.cells=eQ dJ ps j+q by omega]
def Pa.vset (p:Pa) (b v:Nat) (w:Vo):Pa:= {p with cells:=p.cells.set b ((p.cells.getD b []).set v w)}
theorem aVn {cs:List (List Vo)} {b v:Nat} (h:b<cs.length) (hv:v<cs[b].length):cnt dJ (cs.take b)+(v+1)<cnt dJ cs:=by
 have:cnt dJ cs=cnt dJ (cs.take b)+dJ.sz cs[b]+cnt dJ (cs.drop (b+1)):=by
  conv=>lhs;rw[Di h,Gg]
  simp only[cnt];omega
 rw[this,show dJ.sz cs[b]=1+cs[b].length from rfl];omega
theorem aVo {ps:List Pa} (hok:tH ps) {j b v:Nat} (hj:j<ps.length) (hb:b<ps[j].cells.length) (hv:v<ps[j].cells[b].length) {w:Vo} (hw:w.l.length=ps[j].cells[b][v].l.length):
  hset (TZ ps) (1020+eQ dJ ps j+cnt dJ (ps[j].cells.take b)+(v+1)) (.cells (wV w))=TZ (ps.set j (ps[j].vset b v w))/\tH (ps.set j (ps[j].vset b v w)):=by
 have hg:ps[j].cells.getD b []=ps[j].cells[b]:=tZ hb
 have hlen:(ps[j].cells[b].set v w).length=ps[j].cells[b].length:=List.length_set
 have hlt:=aVn hb hv
 have hn:=hok.n
 obtain⟨i1,i2,i3⟩:=aMv 1020 ps j (ps[j].vset b v w) (cnt dJ (ps[j].cells.take b)+(v+1)) (wV w) hj (fun K=>by rw[Pa.vset,hg];exact(Su K _ _ _ hb hlen).1) (by rw[Pa.vset,hg];exact(Su 0 _ _ _ hb hlen).2) rfl hlt (fun K=>by rw[Pa.vset,hg];exact aIn K _ _ _ _ hb hv hw)
 have hoff:=Nv (Φ:=dJ) ps j ps.length hj hj
 have hall:eQ dJ ps ps.length=fM dJ ps:=by rw[eQ,List.take_length]
 refine⟨?_,⟨by rw[List.length_set];exact hok.n,by rw[i3];exact hok.c⟩⟩
 rw[TZ,TZ,i1,i2,aCq (vG (by rw[iQ];omega)),show 1020+eQ dJ ps j+cnt dJ (ps[j].cells.take b)+(v+1)=1020+(eQ dJ ps j+(cnt dJ (ps[j].cells.take b)+(v+1))) by omega,aE5 _ _ _ _ (by rw[rY];omega)]
def vW (st ha:Int) (P:Nat->Bool) (x:Vo):Vo:=⟨x.l.mapIdx fun i e=>if P i=true then(e.up st ha).1 else e⟩
def gU (st ha:Int) (P:Nat->Nat->Nat->Bool) (cs:List (List Vo)):List (List Vo):=cs.mapIdx fun b c=>c.mapIdx fun v x=>vW st ha (P b v) x
def iJ (b v i b' v' i':Nat):Bool:=decide (b'<b\/b'=b/\(v'<v\/v'=v/\i'<i))
section
variable {st ha:Int} {P P':Nat->Nat->Nat->Bool} {cs:List (List Vo)}
theorem kN:(gU st ha P cs).length=cs.length:=List.length_mapIdx
theorem qJ {b:Nat} (h:b< (gU st ha P cs).length):(gU st ha P cs)[b]=(cs[b]'(by rw[kN] at h;exact h)).mapIdx fun v x=>vW st ha (P b v) x:=List.getElem_mapIdx
theorem Vb (h: ∀b (hb:b<cs.length) v (hv:v<cs[b].length) i (hi:i<cs[b][v].l.length),P b v i=P' b v i):gU st ha P cs=gU st ha P' cs:=by
 refine List.ext_getElem (by rw[kN,kN]) fun b h1 h2=>?_
 rw[qJ,qJ]
 rw[kN] at h1
 refine List.ext_getElem (by simp) fun v h3 h4=>?_
 simp only[List.length_mapIdx] at h3
 simp only[List.getElem_mapIdx,vW]
 congr 1
 refine List.ext_getElem (by simp) fun i h5 h6=>?_
 simp only[List.length_mapIdx] at h5
 simp only[List.getElem_mapIdx,h b h1 v h3 i h5]
theorem aGw: ∀(P:Nat->Nat->Nat->Bool) (cs:List (List Vo)) (b:Nat),cnt dJ ((gU st ha P cs).take b)=cnt dJ (cs.take b)
 |P,[],b=>by simp [gU]
 |P,c::cs,0=>by simp
 |P,c::cs,b+1=>by
  have:=aGw (fun b=>P (b+1)) cs b
  simp only[gU,List.mapIdx_cons,List.take_succ_cons,cnt,dJ,Zw,List.length_mapIdx] at this ⊢
  simp only[this]
end
def jX (ps:List Pa) (j:Nat) (cs:List (List Vo)):List Pa:=ps.set j {ps.getD j pa0 with cells:=cs}
theorem aAy {ps:List Pa} {j:Nat} {cs:List (List Vo)} (h:j<ps.length) (h2:j< (jX ps j cs).length):(jX ps j cs)[j]= {ps.getD j pa0 with cells:=cs}:=List.getElem_set_self _
theorem aB7 {ps:List Pa} {j:Nat} {cs:List (List Vo)}:eQ dJ (jX ps j cs) j=eQ dJ ps j:=by
 rw[eQ,eQ,jX,List.take_set_of_le (Nat.le_refl _)]
theorem aWd {st ha:Int} {P:Nat->Nat->Nat->Bool} {cs:List (List Vo)} (h: ∀b v i,P b v i=false):gU st ha P cs=cs:=by
 refine List.ext_getElem kN fun b h1 h2=>?_
 rw[qJ]
 refine List.ext_getElem (by simp) fun v h3 h4=>?_
 simp only[List.getElem_mapIdx,vW]
 rcases hx:cs[b][v] with⟨l⟩
 congr 1
 refine List.ext_getElem (by simp) fun i h5 h6=>?_
 simp [h b v i]
theorem Qy: ∀(ps:List Pa) (j:Nat) (p:Pa) (h:j<ps.length),cnt dJ p.cells=cnt dJ ps[j].cells->fM dJ (ps.set j p)=fM dJ ps
 |[],j,p,h,_=>by simp at h
 |q::ps,0,p,h,h1=>by
  simp only[List.getElem_cons_zero] at h1
  simp only[List.set_cons_zero,fM,h1]
 |q::ps,j+1,p,h,h1=>by
  simp only[List.getElem_cons_succ] at h1
  simp only[List.set_cons_succ,fM,Qy ps j p (by simpa using h) h1]
theorem aAz {st ha:Int} {P:Nat->Nat->Nat->Bool} {cs:List (List Vo)}:cnt dJ (gU st ha P cs)=cnt dJ cs:=by
 have:=aGw (st:=st) (ha:=ha) P cs cs.length
 rwa [List.take_length,show List.take cs.length (gU st ha P cs)=gU st ha P cs by rw[<-kN (st:=st) (ha:=ha) (P:=P),List.take_length]] at this
theorem aGx {ps:List Pa} (hok:tH ps) {j:Nat} (hj:j<ps.length) {cs':List (List Vo)} (h:cnt dJ cs'=cnt dJ ps[j].cells):tH (jX ps j cs'):=by
 refine⟨by rw[jX,List.length_set];exact hok.n,?_⟩
 rw[jX,Qy _ _ _ hj (by exact h)];exact hok.c
theorem yA {f:Nat->Option Nat} {h:List (Nat×aI)} {ps:List Pa} (hok:tH ps) (hf: ∀k,k<1000000->f k=some k) (hg: ∀k b,hget (TZ ps) k=some b->hget h k=some b):aG f h (TZ ps):=by
 have h1:=hok.n
 have h2:=hok.c
 refine aG.app (aG.famM (xI 1020 1020 ps fun j hj=>hf _ (by omega)) (fun j hj=>hf _ (by rw[iQ] at hj;omega)) fun q hq=>hg _ _ (by rw[TZ,bV,iM hq])) (aG.famM (Ak 1020 1020 ps fun j hj=>hf _ (by omega)) (fun j hj=>hf _ (by rw[rY] at hj;omega)) fun q hq=>hg _ _ ?_)
 rw[TZ,bV,vG (by rw[iQ];omega)];exact iM hq
def wL (cs:List (List Vo)):List Ev:=cs.flatMap fun c=>c.flatMap fun v=>v.l
def eY (st ha:Int) (cs:List (List Vo)):Int:=(((wL cs).find? fun e=>decide ((e.up st ha).2≠0)).map fun e=>(e.up st ha).2).getD 0
theorem aPf {cs:List (List Vo)} {b v i:Nat} (hb:b<cs.length) (hv:v<cs[b].length) (hi:i<cs[b][v].l.length):
  wL cs=(wL (cs.take b)++((cs[b].take v).flatMap (fun v=>v.l)++cs[b][v].l.take i))++cs[b][v].l[i]::(cs[b][v].l.drop (i+1)++((cs[b].drop (v+1)).flatMap (fun v=>v.l)++wL (cs.drop (b+1)))):=by
 conv=>lhs;rw[wL,Di hb,List.flatMap_append,List.flatMap_cons]
 have e2:(cs[b].flatMap fun v=>v.l)=(cs[b].take v).flatMap (fun v=>v.l)++(cs[b][v].l++(cs[b].drop (v+1)).flatMap fun v=>v.l):=by
  conv=>lhs;rw[Di hv,List.flatMap_append,List.flatMap_cons]
 have e3:cs[b][v].l=cs[b][v].l.take i++cs[b][v].l[i]::cs[b][v].l.drop (i+1):=Di hi
 rw[e2]
 conv=>lhs;rw[e3]
 simp only[wL,List.append_assoc,List.cons_append]
def Bc (st ha:Int) (cs:List (List Vo)) (b v i:Nat):Prop:= ∀b' (hb:b'<cs.length) v' (hv:v'<cs[b'].length) i' (hi:i'<cs[b'][v'].l.length),iJ b v i b' v' i'=true->(cs[b'][v'].l[i'].up st ha).2=0
theorem aUn {st ha:Int} {cs:List (List Vo)} {b v i:Nat} (hb:b<cs.length) (hv:v<cs[b].length) (h:Bc st ha cs b v i): ∀e∈wL (cs.take b)++((cs[b].take v).flatMap (fun v=>v.l)++cs[b][v].l.take i),(e.up st ha).2=0:=by
 intro e he
 simp only[List.mem_append] at he
 rcases he with he|he|he
 ·simp only[wL,List.mem_flatMap] at he
  obtain⟨c,hc,w,hw,hx⟩:=he
  obtain⟨b',hb',rfl⟩:=List.getElem_of_mem hc
  obtain⟨v',hv',rfl⟩:=List.getElem_of_mem hw
  obtain⟨i',hi',rfl⟩:=List.getElem_of_mem hx
  simp only[List.length_take] at hb'
  simp only[List.getElem_take] at hv' hi' ⊢
  exact h b' (by omega) v' hv' i' hi' (decide_eq_true (.inl (by omega)))
 ·simp only[List.mem_flatMap] at he
  obtain⟨w,hw,hx⟩:=he
  obtain⟨v',hv',rfl⟩:=List.getElem_of_mem hw
  obtain⟨i',hi',rfl⟩:=List.getElem_of_mem hx
  simp only[List.length_take] at hv'
  simp only[List.getElem_take] at hi' ⊢
  exact h b hb v' (by omega) i' hi' (decide_eq_true (.inr ⟨rfl,.inl (by omega)⟩))
 ·obtain⟨i',hi',rfl⟩:=List.getElem_of_mem he
  simp only[List.length_take] at hi'
  simp only[List.getElem_take]
  exact h b hb v hv i' (by omega) (decide_eq_true (.inr ⟨rfl,.inr ⟨rfl,by omega⟩⟩))
theorem aH1 {st ha:Int} {cs:List (List Vo)} {b v i:Nat} (hb:b<cs.length) (hv:v<cs[b].length) (hi:i<cs[b][v].l.length) (h:Bc st ha cs b v i) (hx:(cs[b][v].l[i].up st ha).2≠0):eY st ha cs=(cs[b][v].l[i].up st ha).2:=by
 have hz:=aUn hb hv h
 rw[eY,aPf hb hv hi,List.find?_append,List.find?_eq_none.2 (fun e he=>by simp [hz e he])]
 simp [List.find?_cons,hx]
theorem aLu {st ha:Int} {cs:List (List Vo)} (h:Bc st ha cs cs.length 0 0):eY st ha cs=0:=by
 rw[eY,List.find?_eq_none.2 (fun e he=>?_)]
 ·rfl
 ·simp only[wL,List.mem_flatMap] at he
  obtain⟨c,hc,w,hw,hx⟩:=he
  obtain⟨b',hb',rfl⟩:=List.getElem_of_mem hc
  obtain⟨v',hv',rfl⟩:=List.getElem_of_mem hw
  obtain⟨i',hi',rfl⟩:=List.getElem_of_mem hx
  have:=h b' hb' v' hv' i' hi' (decide_eq_true (.inl hb'))
  simp [this]
theorem aPg {st ha:Int} {cs:List (List Vo)} {b v i:Nat} (hb:b<cs.length) (hv:v<cs[b].length) (hi:i<cs[b][v].l.length) (h:Bc st ha cs b v i) (hx:(cs[b][v].l[i].up st ha).2=0):Bc st ha cs b v (i+1):=by
 intro b' hb' v' hv' i' hi' hlt
 simp only[iJ,decide_eq_true_eq] at hlt
 by_cases e:b'=b/\v'=v/\i'=i
 ·obtain⟨rfl,rfl,rfl⟩:=e;exact hx
 ·exact h b' hb' v' hv' i' hi' (decide_eq_true (by omega))
theorem aWe {st ha:Int} {cs:List (List Vo)} {b v:Nat} (hb:b<cs.length) (hv:v<cs[b].length) (h:Bc st ha cs b v cs[b][v].l.length):Bc st ha cs b (v+1) 0:=by
 intro b' hb' v' hv' i' hi' hlt
 simp only[iJ,decide_eq_true_eq] at hlt
 refine h b' hb' v' hv' i' hi' (decide_eq_true ?_)
 by_cases e:b'=b
 ·subst e
  by_cases e2:v'=v
  ·subst e2;exact .inr ⟨rfl,.inr ⟨rfl,hi'⟩⟩
  ·omega
 ·omega
theorem aWf {st ha:Int} {cs:List (List Vo)} {b:Nat} (hb:b<cs.length) (h:Bc st ha cs b cs[b].length 0):Bc st ha cs (b+1) 0 0:=by
 intro b' hb' v' hv' i' hi' hlt
 simp only[iJ,decide_eq_true_eq] at hlt
 refine h b' hb' v' hv' i' hi' (decide_eq_true ?_)
 by_cases e:b'=b
 ·subst e;exact .inr ⟨rfl,.inl hv'⟩
 ·omega
theorem csW_v {st ha:Int} {cs:List (List Vo)} {b v:Nat} (hb:b<cs.length) (hv:v<cs[b].length):gU st ha (iJ b v cs[b][v].l.length) cs=gU st ha (iJ b (v+1) 0) cs:=by
 refine Vb fun b' hb' v' hv' i' hi'=>?_
 simp only[iJ]
 congr 1
 by_cases e:b'=b
 ·subst e
  by_cases e2:v'=v
  ·subst e2;simp [hi']
  ·simp;omega
 ·simp;omega
theorem csW_b {st ha:Int} {cs:List (List Vo)} {b:Nat} (hb:b<cs.length):gU st ha (iJ b cs[b].length 0) cs=gU st ha (iJ (b+1) 0 0) cs:=by
 refine Vb fun b' hb' v' hv' i' hi'=>?_
 simp only[iJ]
 congr 1
 by_cases e:b'=b
 ·subst e;simp [hv']
 ·simp;omega
theorem aUo {st ha:Int} {cs:List (List Vo)}:gU st ha (iJ cs.length 0 0) cs=gU st ha (fun _ _ _=>true) cs:=Vb fun b hb v hv i hi=>by simp [iJ,hb]
theorem aGy {b v i b' v' i':Nat} (h: ¬(b'=b/\v'=v/\i'=i)):iJ b v (i+1) b' v' i'=iJ b v i b' v' i':=by
 simp only[iJ]
 exact decide_eq_decide.2 (by omega)
theorem aGz {st ha:Int} {cs:List (List Vo)} {b v i:Nat} (hb:b<cs.length) (hv:v<cs[b].length) (hi:i<cs[b][v].l.length):
  gU st ha (iJ b v (i+1)) cs=(gU st ha (iJ b v i) cs).set b (((gU st ha (iJ b v i) cs).getD b []).set v ⟨(vW st ha (iJ b v i b v) cs[b][v]).l.set i (cs[b][v].l[i].up st ha).1⟩):=by
 refine List.ext_getElem (by simp [kN]) fun b' h1 h2=>?_
 rw[qJ]
 rw[kN] at h1
 rw[List.getElem_set]
 by_cases e:b=b'
 ·subst e
  rw[if_pos rfl,tZ (by rw[kN];exact h1),qJ]
  refine List.ext_getElem (by simp) fun v' h3 h4=>?_
  simp only[List.length_mapIdx] at h3
  rw[List.getElem_mapIdx,List.getElem_set]
  by_cases e2:v=v'
  ·subst e2
   rw[if_pos rfl]
   simp only[vW]
   congr 1
   refine List.ext_getElem (by simp) fun i' h5 h6=>?_
   simp only[List.length_mapIdx] at h5
   rw[List.getElem_mapIdx,List.getElem_set]
   by_cases e3:i=i'
   ·subst e3
    rw[if_pos rfl,if_pos (by simp [iJ])]
   ·rw[if_neg e3,List.getElem_mapIdx,aGy (by omega)]
  ·rw[if_neg e2]
   simp only[List.getElem_mapIdx,vW]
   congr 1
   refine List.ext_getElem (by simp) fun i' h5 h6=>?_
   rw[List.getElem_mapIdx,List.getElem_mapIdx,aGy (by omega)]
 ·rw[if_neg e,qJ]
  refine List.ext_getElem (by simp) fun v' h3 h4=>?_
  simp only[List.getElem_mapIdx,vW]
  congr 1
  refine List.ext_getElem (by simp) fun i' h5 h6=>?_
  rw[List.getElem_mapIdx,List.getElem_mapIdx,aGy (by omega)]
end Go.Proofs.Pv
