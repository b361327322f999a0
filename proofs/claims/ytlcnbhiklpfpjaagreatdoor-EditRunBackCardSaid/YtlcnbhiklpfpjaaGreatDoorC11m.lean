/-
Layer 9's edits: pitches and keys that go up.
Conditions: none but those that each statement names.
-/
import Derived.Test.YtlcnbhiklpfpjaaGreatDoorC08s
import Derived.Test.YtlcnbhiklpfpjaaGreatDoorC08e
import Derived.Test.YtlcnbhiklpfpjaaGreatDoorC09a
import Derived.Test.YtlcnbhiklpfpjaaGreatDoorD08
import Derived.Test.YtlcnbhiklpfpjaaGreatDoorC11i
set_option linter.unusedVariables false
set_option linter.unusedSimpArgs false
set_option maxRecDepth 100000
set_option maxHeartbeats 16000000
namespace Go.Proofs.Pv
open Go Go.Proofs
theorem Yy (p:Pi) (h:0<=p.step/\p.step<7/\ -1000<=p.octave/\p.octave<=1000/\ -1000<=p.alter/\p.alter<=1000):PC Tryz.prog gl 140 [p.av] (fun w=>w= .int .i64 p.number):=by
 obtain⟨h1,h2,h3,h4,h5,h6⟩:=h
 obtain⟨s,a,o⟩:=p
 simp only at h1 h2 h3 h4 h5 h6
 rcases aA0 h1 h2 with rfl|rfl|rfl|rfl|rfl|rfl|rfl
 all_goals
  (refine PC.introY 1 mix (fn:=Tryz.f140) Tryz.func140 rfl (names 140 _ Tryz.func140) fun F hF hro W=>?_;simp only[Tryz.ntmps140,Tryz.results140,aJ,Nat.reduceAdd,Nat.reduceSub])
  repeat' (first
  |simp -implicitDefEqProofs (maxSteps:=9999999) (disch:=first|assumption|omega) only[aA,aC,facts,if_pos,Nat.reduceAdd,Nat.reduceLeDiff,Int.reduceToNat,Pi.av,wrap_in, *]
  |((with_reducible refine fQ ?_);refine gZ _ rfl (by decide+kernel) ?_))
  simp [Pi.number,half]
def Pi.upq (p:Pi) (st:Int):Pi:=⟨(p.line+st+7).tmod 7,0,(p.line+st+7).tdiv 7 - 1⟩
def Pi.up (p:Pi) (st ha:Int):Pi×Int:=
 if¬(p.right=true/\ -77<=st/\st<=77/\ -254<=ha/\ha<=254) then(⟨0,0,0⟩,20) else
 if p.line+st+7<0 then(⟨0,0,0⟩,20) else
 if(⟨(p.upq st).step,p.number+ha - (p.upq st).number,(p.upq st).octave⟩:Pi).right=true then(⟨(p.upq st).step,p.number+ha - (p.upq st).number,(p.upq st).octave⟩,0) else(⟨0,0,0⟩,20)
def uO (st ha:Int):AV:= .agg [.int .i64 st,.int .i64 ha]
theorem aJu (p:Pi) (st ha:Int):PC Tryz.prog gl 132 [p.av,uO st ha] (fun w=>w= .tup [(p.up st ha).1.av,.int .i64 (p.up st ha).2]):=by
  by_cases h0:p.right=true/\ -77<=st/\st<=77/\ -254<=ha/\ha<=254
  · obtain⟨h1,h2,h3,h4,h5⟩:=h0
    have hf:p.fits=true:=by simp only[Pi.right,Bool.and_eq_true] at h1;exact h1.1
    have hf2:=hf
    simp only[Pi.fits,decide_eq_true_eq] at hf2
    have hl: -7<=p.line/\p.line<=69:=by simp only[Pi.line];omega
    have hn: -100<=p.number/\p.number<=1000:=by simp only[Pi.number,half];split<;>omega
    by_cases hneg:p.line+st+7<0
    · rw[show p.up st ha=(⟨0,0,0⟩,20) by rw[Pi.up,if_neg (fun h=>h ⟨h1,h2,h3,h4,h5⟩),if_pos hneg]]
      (refine PC.introY 1 mix (fn:=Tryz.f132) Tryz.func132 rfl (names 132 _ Tryz.func132) fun F hF hro W=>?_;simp only[Tryz.ntmps132,Tryz.results132,aJ,Nat.reduceAdd,Nat.reduceSub])
      repeat' (first
    |simp -implicitDefEqProofs (maxSteps:=9999999) (disch:=first|assumption|omega) only[aA,aC,facts,if_pos,if_neg,Nat.reduceAdd,Nat.reduceLeDiff,Int.reduceNeg,Int.reduceSub,Pi.av,uO,wrap_in, *]
    |((with_reducible refine jS 143 ?_);refine dK (Ai p hf) (rfl) ?_)
    |((with_reducible refine aF (fun _=>?_) (fun _=>?_))<;>try omega)
    |((with_reducible refine iH (fun _=>?_) (fun _=>?_))<;>try omega)
    |((with_reducible refine fQ ?_);refine gZ _ rfl (by decide+kernel) ?_)
    | ((with_reducible refine dI 108 ?_);refine PC.useY hF (nO p) (rfl) fun v hv=>?_;subst hv))
      all_goals rfl
    · have e7:p.line+st - -7=p.line+st+7:=by omega
      have hm:(p.line+st+7).tmod 7=(p.line+st+7) % 7:=Int.tmod_eq_emod_of_nonneg (by omega)
      have hd:(p.line+st+7).tdiv 7=(p.line+st+7) / 7:=Int.tdiv_eq_ediv_of_nonneg (by omega)
      have hq:0<=(p.upq st).step/\(p.upq st).step<7/\ -1<=(p.upq st).octave/\(p.upq st).octave<=100:=by simp only[Pi.upq,hm,hd];omega
      have hqn: -100<=(p.upq st).number/\(p.upq st).number<=2000:=by simp only[Pi.number,half];rw[show(p.upq st).alter=0 from rfl];split<;>omega
      obtain⟨q0,hq0⟩: ∃q0,p.upq st=q0:=⟨_,rfl⟩
      have a0:q0.alter=0:=by rw[<-hq0];rfl
      have a1:q0.step=(p.line+st+7) % 7:=by rw[<-hq0,<-hm];rfl
      have a2:q0.octave=(p.line+st+7) / 7+ -1:=by rw[<-hq0,<-hd];rfl
      rw[hq0] at hq hqn
      have hnum:=Yy q0 (by omega)
      have hup:p.up st ha=if(⟨q0.step,p.number+ha - q0.number,q0.octave⟩:Pi).right=true then(⟨q0.step,p.number+ha - q0.number,q0.octave⟩,0) else(⟨0,0,0⟩,20):=by rw[Pi.up,if_neg (fun h=>h ⟨h1,h2,h3,h4,h5⟩),if_neg hneg,hq0]
      rw[hup]
      have hrt:=nO ⟨q0.step,p.number+ha - q0.number,q0.octave⟩
      simp only[Pi.av] at hnum hrt
      rw[a0,a1,a2] at hnum
      rw[a1,a2] at hrt
      (refine PC.introY 1 mix (fn:=Tryz.f132) Tryz.func132 rfl (names 132 _ Tryz.func132) fun F hF hro W=>?_;simp only[Tryz.ntmps132,Tryz.results132,aJ,Nat.reduceAdd,Nat.reduceSub])
      repeat' (first
    |simp -implicitDefEqProofs (maxSteps:=9999999) (disch:=first|assumption|omega) only[aA,aC,facts,if_pos,if_neg,Nat.reduceAdd,Nat.reduceEqDiff,Nat.reduceLeDiff,Int.reduceNeg,Int.reduceSub,Pi.av,uO,wrap_in,e7, *]
    |((with_reducible refine jS 143 ?_);refine dK (Ai p hf) (rfl) ?_)
    |((with_reducible refine w_at 140 ?_);refine iZ (xY p hf) (rfl) ?_)
    |((with_reducible refine w_at 140 ?_);refine iZ hnum (rfl) ?_)
    |((with_reducible refine aF (fun _=>?_) (fun _=>?_))<;>try omega)
    |((with_reducible refine dR (fun _=>?_) (fun _=>?_))<;>try omega)
    |((with_reducible refine iH (fun _=>?_) (fun _=>?_))<;>try omega)
    |((with_reducible refine fQ ?_);refine gZ _ rfl (by decide+kernel) ?_)
    |((with_reducible refine fQ ?_);refine Yb (by decide+kernel) ?_)
    |((with_reducible refine dP ?_ ?_);· decide+kernel)
    |((with_reducible refine dI 108 ?_);refine PC.useY hF (nO p) (rfl) fun v hv=>?_;subst hv)
    |((with_reducible refine dI 108 ?_);refine PC.useY hF hrt (rfl) fun v hv=>?_;subst hv))
  · rw[show p.up st ha=(⟨0,0,0⟩,20) by rw[Pi.up,if_pos h0]]
    by_cases h1:p.right=true
    · have h2: ¬(-77<=st/\st<=77/\ -254<=ha/\ha<=254):=fun h=>h0 ⟨h1,h⟩
      (refine PC.introY 1 mix (fn:=Tryz.f132) Tryz.func132 rfl (names 132 _ Tryz.func132) fun F hF hro W=>?_;simp only[Tryz.ntmps132,Tryz.results132,aJ,Nat.reduceAdd,Nat.reduceSub])
      repeat' (first
    |simp -implicitDefEqProofs (maxSteps:=9999999) (disch:=first|assumption|omega) only[aA,aC,facts,if_pos,Nat.reduceAdd,Nat.reduceLeDiff,Int.reduceNeg,Int.reduceSub,Pi.av,uO,wrap_in, *]
    |((with_reducible refine aF (fun _=>?_) (fun _=>?_))<;>try omega)
    |((with_reducible refine iH (fun _=>?_) (fun _=>?_))<;>try omega)
    | ((with_reducible refine dI 108 ?_);refine PC.useY hF (nO p) (rfl) fun v hv=>?_;subst hv))
      all_goals rfl
    · have h1:p.right=false:=by simpa using h1
      (refine PC.introY 1 mix (fn:=Tryz.f132) Tryz.func132 rfl (names 132 _ Tryz.func132) fun F hF hro W=>?_;simp only[Tryz.ntmps132,Tryz.results132,aJ,Nat.reduceAdd,Nat.reduceSub])
      repeat' (first
    |simp -implicitDefEqProofs (maxSteps:=9999999) (disch:=first|assumption|omega) only[aA,aC,facts,if_pos,Nat.reduceAdd,Int.reduceNeg,Pi.av,uO, *]
    | ((with_reducible refine dI 108 ?_);refine PC.useY hF (nO p) (rfl) fun v hv=>?_;subst hv))
      all_goals rfl
def Ke.up (k:Ke) (st ha:Int):Ke×Int:=
 if k.right=true then(if(⟨k.fifths+7*ha - 12*st,k.minor⟩:Ke).right=true then(⟨k.fifths+7*ha - 12*st,k.minor⟩,0) else(⟨0,false⟩,30)) else(⟨0,false⟩,30)
theorem aJv (k:Ke) (st ha:Int) (h: -70<=st/\st<=70/\ -120<=ha/\ha<=120):PC Tryz.prog gl 67 [k.av,uO st ha] (fun w=>w= .tup [(k.up st ha).1.av,.int .i64 (k.up st ha).2]):=by
 by_cases h1:k.right=true
 ·have hf: -7<=k.fifths/\k.fifths<=7:=by simpa [Ke.right] using h1
  have hrt:=Bi ⟨k.fifths+7*ha - 12*st,k.minor⟩
  have hrk:=Bi k
  rw[Ke.up,if_pos h1]
  simp only[Ke.av] at hrt hrk
  rw[h1] at hrk
  (refine PC.introY 1 mix (fn:=Tryz.f67) Tryz.func67 rfl (names 67 _ Tryz.func67) fun F hF hro W=>?_;simp only[Tryz.ntmps67,Tryz.results67,aJ,Nat.reduceAdd,Nat.reduceSub])
  repeat' (first
  |simp -implicitDefEqProofs (maxSteps:=9999999) (disch:=first|assumption|omega) only[aA,aC,facts,if_pos,Nat.reduceAdd,Nat.reduceLeDiff,Int.reduceNeg,Ke.av,uO,wrap_in, *]
  |((with_reducible refine aF (fun _=>?_) (fun _=>?_))<;>try omega)
  |((with_reducible refine dR (fun _=>?_) (fun _=>?_))<;>try omega)
  |((with_reducible refine iH (fun _=>?_) (fun _=>?_))<;>try omega)
  |((with_reducible refine dI 73 ?_);refine PC.useY hF hrk (rfl) fun v hv=>?_;subst hv)
  |((with_reducible refine dI 73 ?_);refine PC.useY hF hrt (rfl) fun v hv=>?_;subst hv))
  all_goals simp_all [Ke.av]
 ·have hrk:=Bi k
  have h1:k.right=false:=by simpa using h1
  rw[Ke.up,if_neg (by simp [h1])]
  simp only[Ke.av] at hrk
  (refine PC.introY 1 mix (fn:=Tryz.f67) Tryz.func67 rfl (names 67 _ Tryz.func67) fun F hF hro W=>?_;simp only[Tryz.ntmps67,Tryz.results67,aJ,Nat.reduceAdd,Nat.reduceSub])
  repeat' (first
  |simp -implicitDefEqProofs (maxSteps:=9999999) (disch:=first|assumption|omega) only[aA,aC,facts,if_pos,Nat.reduceAdd,Int.reduceNeg,Ke.av,uO, *]
  |((with_reducible refine dI 73 ?_);refine PC.useY hF hrk (rfl) fun v hv=>?_;subst hv))
  all_goals simp_all [Ke.av]
def ev0:Ev:=⟨0,[],[],⟨0,0,0,0⟩,[],⟨#[]⟩⟩
def Bv (st ha:Int) (l:List Pi):Bool:=l.any fun p=>!decide ((p.up st ha).2=0)
def Ev.upE (e:Ev) (st ha:Int):Ev:= {e with pitches:=e.pitches.map fun p=>(p.up st ha).1}
def Ev.up (e:Ev) (st ha:Int):Ev×Int:=
 if e.right=true then(if Bv st ha e.pitches=true then(ev0,20) else if(e.upE st ha).right=true then(e.upE st ha,0) else(ev0,60)) else(ev0,60)
theorem aMy (p:Pi) (st ha:Int):(p.up st ha).2=0\/(p.up st ha).2=20:=by
 unfold Pi.up
 repeat' split
 all_goals simp
theorem aG.tk {f:Nat->Option Nat} {h t:List (Nat×aI)} {k:Nat} (K:Nat) (hk:hget h K=some .tok) (hf:f K=some k) (ht:aG f h t):aG f h ((k,.tok)::t):=by
 intro k' b' h'
 simp only[hget] at h'
 split at h'
 ·rename_i e
  simp only[Option.some.injEq] at h'
  subst e;subst h'
  exact⟨K,.tok,hf,hk,rfl⟩
 ·exact ht k' b' h'
theorem aMz {st ha:Int} {l:List Pi} {i:Nat} (h:i<l.length) (hx:(l[i].up st ha).2≠0):Bv st ha l=true:=by
 unfold Bv
 rw[List.any_eq_true]
 exact⟨l[i],List.getElem_mem h,by simpa using hx⟩
theorem aP5 {st ha:Int} {l:List Pi} (h: ∀j (hj:j<l.length),(l[j].up st ha).2=0):Bv st ha l=false:=by
 unfold Bv
 rw[List.any_eq_false]
 intro p hp
 obtain⟨j,hj,rfl⟩:=List.getElem_of_mem hp
 simp [h j hj]
def upC (e:Ev) (a:AV):List AV:=[.int .i64 e.kind,a,.sl 1 (e.ties.map AV.bool) .none,.int .i64 e.value.base,.int .i64 e.value.dots,.int .i64 e.value.num,.int .i64 e.value.den,.sl 1 (e.marks.map (AV.int .i64)) .none,.str e.word]
def upL (e:Ev) (st ha:Int):List (Nat×aI):=[(2,.cells [.int .i64 0,.sl 3 [] .full,.sl 1 [] .full,.int .i64 0,.int .i64 0,.int .i64 0,.int .i64 0,.sl 1 [] .full,.str ⟨#[]⟩]),(1,.cells [.int .i64 st,.int .i64 ha]),(0,.cells (upC e (.sl 3 (e.pitches.map Pi.av) .none)))]
def Zo (e:Ev) (st ha:Int):Nat->List (Nat×aI)
 |0=>(7,.cells (upC e (.sl 3 [] .full)))::upL e st ha
 |i+1=>(100,.tok)::(7,.cells (upC e (.sl 3 ((e.pitches.take (i+1)).map fun p=>(p.up st ha).1.av) (.tok 100))))::upL e st ha
theorem aJ9 (e:Ev) (st ha:Int) (hsm:e.small):PC Tryz.prog gl 102 [e.av,uO st ha] (fun w=>w= .tup [(e.up st ha).1.av,.int .i64 (e.up st ha).2]):=by
  have hr:=vP e hsm
  by_cases h1:e.right=true
  · have hct:=Iq e.ties hsm.2.1
    have hcm:=sN e.marks hsm.2.2
    rw[h1] at hr
    simp only[Ev.av] at hr
    rw[Ev.up,if_pos h1]
    (refine PC.introZ 2 mix (fn:=Tryz.f102) Tryz.func102 rfl (names 102 _ Tryz.func102) fun F hF hro W=>?_;simp only[Tryz.ntmps102,Tryz.results102,aJ,Nat.reduceAdd,Nat.reduceSub])
    repeat' (first
    |simp -implicitDefEqProofs (maxSteps:=9999999) only[↓reduceIte,aA,aC,facts,Nat.reduceAdd,Nat.reduceEqDiff,Nat.reduceLeDiff,Ev.av,uO, *]
    |((with_reducible refine w_at 89 ?_);refine iZ hct (rfl) ?_)
    |((with_reducible refine w_at 81 ?_);refine iZ hcm (rfl) ?_)
    |((with_reducible refine aO ?_);refine jH (by decide+kernel) ?_)
    |((with_reducible refine dP ?_ ?_);· decide+kernel)
    |((with_reducible refine aS 69 ?_);refine PC.useZ hF hr (rfl) fun v hv=>?_;subst hv))
    have hlp:=hsm.1
    refine jV (fD 54 [2,3,4,5,6,26,27,28]) 101 e.pitches.length (fun i (_:Unit)=>⟨[.ud,.ud,.ptr 0 0,.ptr 1 0,.ptr 2 0,.int .i64 0,.ptr 7 0,.ud,.ud,.ud,.ud,.ud,.ud,.ud,.ud,.ud,.ud,.ud,.ud,.ud,.ud,.ud,.ud,.ud,.ud,.ud,.sl 3 (e.pitches.map Pi.av) .none,.int .i64 (e.pitches.length:Nat),.int .i64 (i:Nat),.ud,.ud,.ud,.ud,.ud,.ud,.ud,.ud,.ud,.ud,.ud,.ud,.ud,.ud,.ud,.ud,.ud,.ud,.ud,.ud,.ud,.ud,.ud,.ud,.ud],[]⟩) (fun i _=>⟨Zo e st ha i,101⟩) (fun i _=>i<1000001/\ ∀j (h:j<e.pitches.length),j<i->(e.pitches[j].up st ha).2=0) ⟨(),⟨by omega,fun j h hj=>by omega⟩,bI 25 [],gK 25 [],dH.of_fit rfl rfl rfl,aG.cons 7 rfl rfl rfl (aG.cons 2 rfl rfl rfl (aG.cons 1 rfl rfl rfl (aG.cons 0 rfl rfl rfl aG.nil))),rfl,rfl⟩ ?_
    rintro i x hi ⟨hi2,hQ⟩
    rcases Nat.lt_or_ge i e.pitches.length with hlt|hge
    · have hup:=aJu e.pitches[i] st ha
      have hgi:(e.pitches.map Pi.av)[i]?=some (Pi.av e.pitches[i]):=by rw[List.getElem?_map,List.getElem?_eq_getElem hlt];rfl
      have hg2:e.pitches[i]?=some e.pitches[i]:=List.getElem?_eq_getElem hlt
      generalize hpi:e.pitches[i]=q at hup hgi hg2
      simp only[Pi.av,uO] at hup
      obtain⟨u,x,hux⟩: ∃u x,q.up st ha=(u,x):=⟨_,_,rfl⟩
      rw[hux] at hup
      rcases i with _|i
      · simp only[Zo,upL,upC]
        repeat' (first
    |simp -implicitDefEqProofs (maxSteps:=9999999) only[↓reduceIte,aA,aC,facts,Nat.reduceAdd,Nat.reduceEqDiff,Nat.reduceLT,Nat.reduceLeDiff,Int.reduceLE,Int.reduceNeg,Int.reduceAdd,AV.cells,AV.one,wrap_in,Pi.av,aT,rF, *]
    |((with_reducible refine aF (fun _=>?_) (fun _=>?_))<;>try omega)
    |((with_reducible refine dL (fun _=>?_) (fun _=>?_))<;>try omega)
    | ((with_reducible refine aS 132 ?_);refine PC.useZ hF hup (rfl) fun v hv=>?_;subst hv))
        · have hb:Bv st ha e.pitches=true:=aMz hlt (by rw[hpi,hux];exact fun h=>by simp_all)
          have h20:x=20:=by
            have:=aMy q st ha
            rw[hux] at this
            rcases this with h|h
            · simp only at h;simp_all
            · exact h
          rw[if_pos hb,h20];rfl
        · have hx0:x=0:=by simp_all
          refine dN 0 () hlt (by omega) ⟨by omega,fun j h hj=>?_⟩ (bI 25 [(120,100)]) (gK 25 [(120,100)]) (dH.of_fit rfl rfl rfl) ?_ rfl rfl
          · rcases Nat.lt_or_ge j (0) with h9|h9
            · exact hQ j h h9
            · have:j=0:=by omega
              subst this
              rw[hpi,hux];exact hx0
          · refine aG.tk 120 rfl rfl (aG.cons 7 rfl rfl ?_ (aG.cons 2 rfl rfl rfl (aG.cons 1 rfl rfl rfl (aG.cons 0 rfl rfl rfl aG.nil))))
            simp only[List.take_succ_eq_append_getElem hlt,List.map_append,List.map_cons,List.map_nil,hpi,hux,List.take_zero,List.nil_append]
            rfl
      · have hcap:((List.take (i+1) e.pitches).length+1)*24<=140737488355328:=by rw[List.length_take];omega
        simp only[Zo,upL,upC]
        repeat' (first
    |simp -implicitDefEqProofs (maxSteps:=9999999) only[↓reduceIte,aA,aC,facts,Nat.reduceAdd,Nat.reduceEqDiff,Nat.reduceLT,Nat.reduceLeDiff,AV.cells,AV.one,Pi.av,aT,rF, *]
    |simp -implicitDefEqProofs (maxSteps:=9999999) (disch:=first|assumption|omega) only[wrap_in, *]
    |((with_reducible refine aF (fun _=>?_) (fun _=>?_))<;>try omega)
    |((with_reducible refine dL (fun _=>?_) (fun _=>?_))<;>try omega)
    | ((with_reducible refine aS 132 ?_);refine PC.useZ hF hup (rfl) fun v hv=>?_;subst hv))
        · have hb:Bv st ha e.pitches=true:=aMz hlt (by rw[hpi,hux];exact fun h=>by simp_all)
          have h20:x=20:=by
            have:=aMy q st ha
            rw[hux] at this
            rcases this with h|h
            · simp only at h;simp_all
            · exact h
          rw[if_pos hb,h20];rfl
        · have hx0:x=0:=by simp_all
          have hQ2:i+1+1<1000001/\ ∀j (h:j<e.pitches.length),j<i+1+1->(e.pitches[j].up st ha).2=0:=⟨by omega,fun j h hj=>by
            rcases Nat.lt_or_ge j (i+1) with h9|h9
            · exact hQ j h h9
            · have:j=i+1:=by omega
              subst this
              rw[hpi,hux];exact hx0⟩
          refine dN (i+1) () hlt rfl hQ2 (bI 25 [(120,100)]) (gK 25 [(120,100)]) (dH.of_fit rfl rfl rfl) ?_ rfl rfl
          · refine aG.tk 120 rfl rfl (aG.cons 7 rfl rfl ?_ (aG.cons 2 rfl rfl rfl (aG.cons 1 rfl rfl rfl (aG.cons 0 rfl rfl rfl aG.nil))))
            simp only[List.take_succ_eq_append_getElem hlt,List.map_append,List.map_cons,List.map_nil,hpi,hux,List.append_nil]
            rfl
    · have he:i=e.pitches.length:=by omega
      subst he
      have hnb:=aP5 (st:=st) (ha:=ha) fun j hj=>hQ j hj hj
      have hmap:(e.pitches.map fun p=>(p.up st ha).1.av)=(e.upE st ha).pitches.map Pi.av:=by simp [Ev.upE]
      have hr2:=vP (e.upE st ha) ⟨by simp only[Ev.upE,List.length_map];exact hsm.1,hsm.2.1,hsm.2.2⟩
      rw[if_neg (by rw[hnb];decide)]
      simp only[Ev.av] at hr2
      rcases Nat.eq_zero_or_pos e.pitches.length with hn|hn
      · have hnil:e.pitches=[]:=List.length_eq_zero_iff.1 hn
        have hun:(e.upE st ha).pitches=[]:=by simp [Ev.upE,hnil]
        simp only[hun,List.map_nil] at hr2
        rw[show Zo e st ha e.pitches.length=Zo e st ha 0 by rw[hn]]
        simp only[Zo,upL,upC,hnil]
        repeat' (first
    |simp -implicitDefEqProofs (maxSteps:=9999999) only[↓reduceIte,aA,aC,facts,Nat.reduceAdd,Nat.reduceEqDiff,Nat.reduceSub,Int.reduceLT,AV.cells,AV.one,aT, *]
    |((with_reducible refine dR (fun _=>?_) (fun _=>?_))<;>try omega)
    | ((with_reducible refine aS 69 ?_);refine PC.useZ hF hr2 (rfl) fun v hv=>?_;subst hv))
        all_goals rfl
      · obtain⟨n,hn⟩: ∃n,e.pitches.length=n+1:=⟨e.pitches.length - 1,by omega⟩
        have htk:List.take (n+1) e.pitches=e.pitches:=by rw[<-hn,List.take_length]
        rw[show Zo e st ha e.pitches.length=Zo e st ha (n+1) by rw[hn]]
        simp only[Zo,upL,upC,htk]
        repeat' (first
    |simp -implicitDefEqProofs (maxSteps:=9999999) only[↓reduceIte,aA,aC,facts,Nat.reduceAdd,Nat.reduceEqDiff,AV.cells,AV.one,aT, *]
    |simp -implicitDefEqProofs (maxSteps:=9999999) (disch:=first|assumption|omega) only[*]
    |((with_reducible refine aF (fun _=>?_) (fun _=>?_))<;>try omega)
    |((with_reducible refine dR (fun _=>?_) (fun _=>?_))<;>try omega)
    | ((with_reducible refine aS 69 ?_);refine PC.useZ hF hr2 (rfl) fun v hv=>?_;subst hv))
        all_goals rfl
  · have h1:e.right=false:=by simpa using h1
    rw[h1] at hr
    simp only[Ev.av] at hr
    rw[Ev.up,if_neg (by simp [h1])]
    (refine PC.introZ 2 mix (fn:=Tryz.f102) Tryz.func102 rfl (names 102 _ Tryz.func102) fun F hF hro W=>?_;simp only[Tryz.ntmps102,Tryz.results102,aJ,Nat.reduceAdd,Nat.reduceSub])
    repeat' (first
    |simp -implicitDefEqProofs (maxSteps:=9999999) only[↓reduceIte,aA,aC,facts,Nat.reduceAdd,Nat.reduceEqDiff,Ev.av,uO, *]
    |((with_reducible refine aS 69 ?_);refine PC.useZ hF hr (rfl) fun v hv=>?_;subst hv))
    all_goals rfl
def TZ (ps:List Pa):List (Nat×aI):=hC (dW 22 (iV dJ 1020 ps))++hC (dW 1020 (deep dJ 1020 ps))
structure tV (ps:List Pa):Prop where
 n:ps.length<=400
 c:fM dJ ps<=900000
theorem aFc (s:Sc):lW dJ s=TZ s.parts:=by
 rw[lW,scT,Gs,uD,oC,oC,Dc,Nc];rfl
theorem yO {ps:List Pa} (h:tV ps):iJ 22 1000000 (TZ ps):=by
 have h1:=h.n
 have h2:=h.c
 exact iJ.app ((iJ.fam (m:=1000000) (by rw[iQ];omega)).wide (by omega) (Nat.le_refl _)) ((iJ.fam (m:=1000000) (by rw[sF];omega)).wide (by omega) (Nat.le_refl _))
theorem aEh {ps:List Pa} (h:tV ps):rD dJ (hget (TZ ps)) 22 1020 ps:=by
 have h1:=h.n
 refine rD.of (fun q hq=>?_) fun q hq=>?_
 ·rw[TZ,bV,iO hq]
 ·rw[TZ,bV,vJ (by rw[iQ];omega)];exact iO hq
theorem aFd: ∀(K:Nat) (l:List (List AV)) (q:Nat) (x:List AV),q<l.length->hset (hC (dW K l)) (K+q) (.cells x)=hC (dW K (l.set q x))
 |K,[],q,x,h=>by simp at h
 |K,y::l,0,x,h=>by simp [dW,hC,hset]
 |K,y::l,q+1,x,h=>by
  have ih:=aFd (K+1) l q x (by simpa using h)
  rw[show K+1+q=K+(q+1) by omega] at ih
  simp only[hC] at ih
  simp only[dW,hC,List.map_cons,hset,List.set_cons_succ,ih]
  rw[if_neg (by omega)]
theorem aCw {k:Nat} {b:aI}: ∀ {A B:List (Nat×aI)},hget A k=none->hset (A++B) k b=A++hset B k b
 |[],B,h=>rfl
 | (q,x)::A,B,h=>by
  simp only[hget] at h
  split at h
  ·cases h
  ·rename_i hne
   simp only[List.cons_append,hset,if_neg hne,aCw h]
theorem aCx: ∀(K:Nat) (c:List Vo) (v:Nat) (w:Vo) (h:v<c.length),w.l.length=c[v].l.length->lH K (c.set v w)=lH K c
 |K,[],v,w,h,_=>by simp at h
 |K,x::c,0,w,h,hl=>by
  simp only[List.getElem_cons_zero] at hl
  simp only[List.set_cons_zero,lH,hl]
 |K,x::c,v+1,w,h,hl=>by
  simp only[List.getElem_cons_succ] at hl
  simp only[List.set_cons_succ,lH,aCx (K+1) c v w (by simpa using h) hl]
theorem Tc: ∀(K:Nat) (cs:List (List Vo)) (b:Nat) (c:List Vo) (h:b<cs.length),c.length=cs[b].length->eH dJ K (cs.set b c)=eH dJ K cs/\cnt dJ (cs.set b c)=cnt dJ cs
 |K,[],b,c,h,_=>by simp at h
 |K,x::cs,0,c,h,hl=>by
  simp only[List.getElem_cons_zero] at hl
  simp only[List.set_cons_zero,eH,cnt,dJ,x9,hl,and_self]
 |K,x::cs,b+1,c,h,hl=>by
  simp only[List.getElem_cons_succ] at hl
  have ih:=Tc (K+dJ.sz x) cs b c (by simpa using h) hl
  simp only[List.set_cons_succ,eH,cnt,ih.1,ih.2,and_self]
theorem aIt: ∀(K:Nat) (cs:List (List Vo)) (b v:Nat) (w:Vo) (h:b<cs.length) (hv:v<cs[b].length),w.l.length=cs[b][v].l.length->csB dJ K (cs.set b (cs[b].set v w))=(csB dJ K cs).set (cnt dJ (cs.take b)+(v+1)) (wZ w)
 |K,[],b,v,w,h,hv,_=>by simp at h
 |K,x::cs,0,v,w,h,hv,hl=>by
  simp only[List.getElem_cons_zero] at hl hv ⊢
  have hlen:(x.set v w).length=x.length:=List.length_set
  simp only[List.set_cons_zero,csB,dJ,x9,hlen,List.take_zero,cnt,Nat.zero_add,List.cons_append,List.set_cons_succ,aCx (K+1) x v w hv hl]
  rw[List.set_append_left _ _ (by simpa using hv),List.map_set]
 |K,x::cs,b+1,v,w,h,hv,hl=>by
  simp only[List.getElem_cons_succ] at hl hv ⊢
  have ih:=aIt (K+dJ.sz x) cs b v w (by simpa using h) hv hl
  simp only[List.set_cons_succ,csB,ih,List.take_succ_cons,cnt]
  rw[List.set_append_right _ _ (by rw[dJ.len];omega),dJ.len,show dJ.sz x+cnt dJ (cs.take b)+(v+1) - dJ.sz x=cnt dJ (cs.take b)+(v+1) by omega]
theorem aM2: ∀(D:Nat) (ps:List Pa) (j:Nat) (p:Pa) (q:Nat) (x:List AV) (h:j<ps.length),(∀K,eH dJ K p.cells=eH dJ K ps[j].cells)->cnt dJ p.cells=cnt dJ ps[j].cells->p.dyns=ps[j].dyns->q<cnt dJ ps[j].cells->(∀K,csB dJ K p.cells=(csB dJ K ps[j].cells).set q x)->
  iV dJ D (ps.set j p)=iV dJ D ps/\deep dJ D (ps.set j p)=(deep dJ D ps).set (eQ dJ ps j+q) x/\fM dJ (ps.set j p)=fM dJ ps
 |D,[],j,p,q,x,h,_,_,_,_,_=>by simp at h
 |D,y::ps,0,p,q,x,h,h1,h2,h3,h4,h5=>by
  simp only[List.getElem_cons_zero] at h1 h2 h3 h4 h5
  refine⟨by simp only[List.set_cons_zero,iV,h1,h2,h3],?_,by simp only[List.set_cons_zero,fM,h2]⟩
  simp only[List.set_cons_zero,deep,h5,h2,eQ,List.take_zero,fM,Nat.zero_add]
  rw[List.set_append_left _ _ (by rw[kN];exact h4)]
 |D,y::ps,j+1,p,q,x,h,h1,h2,h3,h4,h5=>by
  simp only[List.getElem_cons_succ] at h1 h2 h3 h4 h5
  obtain⟨i1,i2,i3⟩:=aM2 (D+cnt dJ y.cells) ps j p q x (by simpa using h) h1 h2 h3 h4 h5
  refine⟨by simp only[List.set_cons_succ,iV,i1],?_,by simp only[List.set_cons_succ,fM,i3]⟩
  simp only[List.set_cons_succ,deep,i2,Cf]
  rw[List.set_append_right _ _ (by rw[kN];omega),kN,show cnt dJ y.cells+eQ dJ ps j+q - cnt dJ y.cells=eQ dJ ps j+q by omega]
def Pa.vset (p:Pa) (b v:Nat) (w:Vo):Pa:= {p with cells:=p.cells.set b ((p.cells.getD b []).set v w)}
theorem aVt {cs:List (List Vo)} {b v:Nat} (h:b<cs.length) (hv:v<cs[b].length):cnt dJ (cs.take b)+(v+1)<cnt dJ cs:=by
 have:cnt dJ cs=cnt dJ (cs.take b)+dJ.sz cs[b]+cnt dJ (cs.drop (b+1)):=by
  conv=>lhs;rw[Dq h,Gq]
  simp only[cnt];omega
 rw[this,show dJ.sz cs[b]=1+cs[b].length from rfl];omega
theorem aVu {ps:List Pa} (hok:tV ps) {j b v:Nat} (hj:j<ps.length) (hb:b<ps[j].cells.length) (hv:v<ps[j].cells[b].length) {w:Vo} (hw:w.l.length=ps[j].cells[b][v].l.length):
  hset (TZ ps) (1020+eQ dJ ps j+cnt dJ (ps[j].cells.take b)+(v+1)) (.cells (wZ w))=TZ (ps.set j (ps[j].vset b v w))/\tV (ps.set j (ps[j].vset b v w)):=by
 have hg:ps[j].cells.getD b []=ps[j].cells[b]:=uF hb
 have hlen:(ps[j].cells[b].set v w).length=ps[j].cells[b].length:=List.length_set
 have hlt:=aVt hb hv
 have hn:=hok.n
 obtain⟨i1,i2,i3⟩:=aM2 1020 ps j (ps[j].vset b v w) (cnt dJ (ps[j].cells.take b)+(v+1)) (wZ w) hj (fun K=>by rw[Pa.vset,hg];exact(Tc K _ _ _ hb hlen).1) (by rw[Pa.vset,hg];exact(Tc 0 _ _ _ hb hlen).2) rfl hlt (fun K=>by rw[Pa.vset,hg];exact aIt K _ _ _ _ hb hv hw)
 have hoff:=Nz (Φ:=dJ) ps j ps.length hj hj
 have hall:eQ dJ ps ps.length=fM dJ ps:=by rw[eQ,List.take_length]
 refine⟨?_,⟨by rw[List.length_set];exact hok.n,by rw[i3];exact hok.c⟩⟩
 rw[TZ,TZ,i1,i2,aCw (vJ (by rw[iQ];omega)),show 1020+eQ dJ ps j+cnt dJ (ps[j].cells.take b)+(v+1)=1020+(eQ dJ ps j+(cnt dJ (ps[j].cells.take b)+(v+1))) by omega,aFd _ _ _ _ (by rw[sF];omega)]
def vW (st ha:Int) (P:Nat->Bool) (x:Vo):Vo:=⟨x.l.mapIdx fun i e=>if P i=true then(e.up st ha).1 else e⟩
def gU (st ha:Int) (P:Nat->Nat->Nat->Bool) (cs:List (List Vo)):List (List Vo):=cs.mapIdx fun b c=>c.mapIdx fun v x=>vW st ha (P b v) x
def iK (b v i b' v' i':Nat):Bool:=decide (b'<b\/b'=b/\(v'<v\/v'=v/\i'<i))
section
variable {st ha:Int} {P P':Nat->Nat->Nat->Bool} {cs:List (List Vo)}
theorem kP:(gU st ha P cs).length=cs.length:=List.length_mapIdx
theorem qL {b:Nat} (h:b< (gU st ha P cs).length):(gU st ha P cs)[b]=(cs[b]'(by rw[kP] at h;exact h)).mapIdx fun v x=>vW st ha (P b v) x:=List.getElem_mapIdx
theorem Vf (h: ∀b (hb:b<cs.length) v (hv:v<cs[b].length) i (hi:i<cs[b][v].l.length),P b v i=P' b v i):gU st ha P cs=gU st ha P' cs:=by
 refine List.ext_getElem (by rw[kP,kP]) fun b h1 h2=>?_
 rw[qL,qL]
 rw[kP] at h1
 refine List.ext_getElem (by simp) fun v h3 h4=>?_
 simp only[List.length_mapIdx] at h3
 simp only[List.getElem_mapIdx,vW]
 congr 1
 refine List.ext_getElem (by simp) fun i h5 h6=>?_
 simp only[List.length_mapIdx] at h5
 simp only[List.getElem_mapIdx,h b h1 v h3 i h5]
theorem aG2: ∀(P:Nat->Nat->Nat->Bool) (cs:List (List Vo)) (b:Nat),cnt dJ ((gU st ha P cs).take b)=cnt dJ (cs.take b)
 |P,[],b=>by simp [gU]
 |P,c::cs,0=>by simp
 |P,c::cs,b+1=>by
  have:=aG2 (fun b=>P (b+1)) cs b
  simp only[gU,List.mapIdx_cons,List.take_succ_cons,cnt,dJ,x9,List.length_mapIdx] at this ⊢
  simp only[this]
end
def jY (ps:List Pa) (j:Nat) (cs:List (List Vo)):List Pa:=ps.set j {ps.getD j pa0 with cells:=cs}
theorem aA5 {ps:List Pa} {j:Nat} {cs:List (List Vo)} (h:j<ps.length) (h2:j< (jY ps j cs).length):(jY ps j cs)[j]= {ps.getD j pa0 with cells:=cs}:=List.getElem_set_self _
theorem aCc {ps:List Pa} {j:Nat} {cs:List (List Vo)}:eQ dJ (jY ps j cs) j=eQ dJ ps j:=by
 rw[eQ,eQ,jY,List.take_set_of_le (Nat.le_refl _)]
theorem aWk {st ha:Int} {P:Nat->Nat->Nat->Bool} {cs:List (List Vo)} (h: ∀b v i,P b v i=false):gU st ha P cs=cs:=by
 refine List.ext_getElem kP fun b h1 h2=>?_
 rw[qL]
 refine List.ext_getElem (by simp) fun v h3 h4=>?_
 simp only[List.getElem_mapIdx,vW]
 rcases hx:cs[b][v] with⟨l⟩
 congr 1
 refine List.ext_getElem (by simp) fun i h5 h6=>?_
 simp [h b v i]
theorem Rh: ∀(ps:List Pa) (j:Nat) (p:Pa) (h:j<ps.length),cnt dJ p.cells=cnt dJ ps[j].cells->fM dJ (ps.set j p)=fM dJ ps
 |[],j,p,h,_=>by simp at h
 |q::ps,0,p,h,h1=>by
  simp only[List.getElem_cons_zero] at h1
  simp only[List.set_cons_zero,fM,h1]
 |q::ps,j+1,p,h,h1=>by
  simp only[List.getElem_cons_succ] at h1
  simp only[List.set_cons_succ,fM,Rh ps j p (by simpa using h) h1]
theorem aA6 {st ha:Int} {P:Nat->Nat->Nat->Bool} {cs:List (List Vo)}:cnt dJ (gU st ha P cs)=cnt dJ cs:=by
 have:=aG2 (st:=st) (ha:=ha) P cs cs.length
 rwa [List.take_length,show List.take cs.length (gU st ha P cs)=gU st ha P cs by rw[<-kP (st:=st) (ha:=ha) (P:=P),List.take_length]] at this
theorem aG3 {ps:List Pa} (hok:tV ps) {j:Nat} (hj:j<ps.length) {cs':List (List Vo)} (h:cnt dJ cs'=cnt dJ ps[j].cells):tV (jY ps j cs'):=by
 refine⟨by rw[jY,List.length_set];exact hok.n,?_⟩
 rw[jY,Rh _ _ _ hj (by exact h)];exact hok.c
theorem yG {f:Nat->Option Nat} {h:List (Nat×aI)} {ps:List Pa} (hok:tV ps) (hf: ∀k,k<1000000->f k=some k) (hg: ∀k b,hget (TZ ps) k=some b->hget h k=some b):aG f h (TZ ps):=by
 have h1:=hok.n
 have h2:=hok.c
 refine aG.app (aG.famM (xP 1020 1020 ps fun j hj=>hf _ (by omega)) (fun j hj=>hf _ (by rw[iQ] at hj;omega)) fun q hq=>hg _ _ (by rw[TZ,bV,iO hq])) (aG.famM (Ar 1020 1020 ps fun j hj=>hf _ (by omega)) (fun j hj=>hf _ (by rw[sF] at hj;omega)) fun q hq=>hg _ _ ?_)
 rw[TZ,bV,vJ (by rw[iQ];omega)];exact iO hq
def wP (cs:List (List Vo)):List Ev:=cs.flatMap fun c=>c.flatMap fun v=>v.l
def eY (st ha:Int) (cs:List (List Vo)):Int:=(((wP cs).find? fun e=>decide ((e.up st ha).2≠0)).map fun e=>(e.up st ha).2).getD 0
theorem aPn {cs:List (List Vo)} {b v i:Nat} (hb:b<cs.length) (hv:v<cs[b].length) (hi:i<cs[b][v].l.length):
  wP cs=(wP (cs.take b)++((cs[b].take v).flatMap (fun v=>v.l)++cs[b][v].l.take i))++cs[b][v].l[i]::(cs[b][v].l.drop (i+1)++((cs[b].drop (v+1)).flatMap (fun v=>v.l)++wP (cs.drop (b+1)))):=by
 conv=>lhs;rw[wP,Dq hb,List.flatMap_append,List.flatMap_cons]
 have e2:(cs[b].flatMap fun v=>v.l)=(cs[b].take v).flatMap (fun v=>v.l)++(cs[b][v].l++(cs[b].drop (v+1)).flatMap fun v=>v.l):=by
  conv=>lhs;rw[Dq hv,List.flatMap_append,List.flatMap_cons]
 have e3:cs[b][v].l=cs[b][v].l.take i++cs[b][v].l[i]::cs[b][v].l.drop (i+1):=Dq hi
 rw[e2]
 conv=>lhs;rw[e3]
 simp only[wP,List.append_assoc,List.cons_append]
def Bg (st ha:Int) (cs:List (List Vo)) (b v i:Nat):Prop:= ∀b' (hb:b'<cs.length) v' (hv:v'<cs[b'].length) i' (hi:i'<cs[b'][v'].l.length),iK b v i b' v' i'=true->(cs[b'][v'].l[i'].up st ha).2=0
theorem aUr {st ha:Int} {cs:List (List Vo)} {b v i:Nat} (hb:b<cs.length) (hv:v<cs[b].length) (h:Bg st ha cs b v i): ∀e∈wP (cs.take b)++((cs[b].take v).flatMap (fun v=>v.l)++cs[b][v].l.take i),(e.up st ha).2=0:=by
 intro e he
 simp only[List.mem_append] at he
 rcases he with he|he|he
 ·simp only[wP,List.mem_flatMap] at he
  obtain⟨c,hc,w,hw,hx⟩:=he
  obtain⟨b',hb',rfl⟩:=List.getElem_of_mem hc
  obtain⟨v',hv',rfl⟩:=List.getElem_of_mem hw
  obtain⟨i',hi',rfl⟩:=List.getElem_of_mem hx
  simp only[List.length_take] at hb'
  simp only[List.getElem_take] at hv' hi' ⊢
  exact h b' (by omega) v' hv' i' hi' (decide_eq_true (.inl (by omega)))
 ·simp only[List.mem_flatMap] at he
  obtain⟨w,hw,hx⟩:=he
  obtain⟨v',hv',rfl⟩:=List.getElem_of_mem hw
  obtain⟨i',hi',rfl⟩:=List.getElem_of_mem hx
  simp only[List.length_take] at hv'
  simp only[List.getElem_take] at hi' ⊢
  exact h b hb v' (by omega) i' hi' (decide_eq_true (.inr ⟨rfl,.inl (by omega)⟩))
 ·obtain⟨i',hi',rfl⟩:=List.getElem_of_mem he
  simp only[List.length_take] at hi'
  simp only[List.getElem_take]
  exact h b hb v hv i' (by omega) (decide_eq_true (.inr ⟨rfl,.inr ⟨rfl,by omega⟩⟩))
theorem aH6 {st ha:Int} {cs:List (List Vo)} {b v i:Nat} (hb:b<cs.length) (hv:v<cs[b].length) (hi:i<cs[b][v].l.length) (h:Bg st ha cs b v i) (hx:(cs[b][v].l[i].up st ha).2≠0):eY st ha cs=(cs[b][v].l[i].up st ha).2:=by
 have hz:=aUr hb hv h
 rw[eY,aPn hb hv hi,List.find?_append,List.find?_eq_none.2 (fun e he=>by simp [hz e he])]
 simp [List.find?_cons,hx]
theorem aL0 {st ha:Int} {cs:List (List Vo)} (h:Bg st ha cs cs.length 0 0):eY st ha cs=0:=by
 rw[eY,List.find?_eq_none.2 (fun e he=>?_)]
 ·rfl
 ·simp only[wP,List.mem_flatMap] at he
  obtain⟨c,hc,w,hw,hx⟩:=he
  obtain⟨b',hb',rfl⟩:=List.getElem_of_mem hc
  obtain⟨v',hv',rfl⟩:=List.getElem_of_mem hw
  obtain⟨i',hi',rfl⟩:=List.getElem_of_mem hx
  have:=h b' hb' v' hv' i' hi' (decide_eq_true (.inl hb'))
  simp [this]
theorem aPo {st ha:Int} {cs:List (List Vo)} {b v i:Nat} (hb:b<cs.length) (hv:v<cs[b].length) (hi:i<cs[b][v].l.length) (h:Bg st ha cs b v i) (hx:(cs[b][v].l[i].up st ha).2=0):Bg st ha cs b v (i+1):=by
 intro b' hb' v' hv' i' hi' hlt
 simp only[iK,decide_eq_true_eq] at hlt
 by_cases e:b'=b/\v'=v/\i'=i
 ·obtain⟨rfl,rfl,rfl⟩:=e;exact hx
 ·exact h b' hb' v' hv' i' hi' (decide_eq_true (by omega))
theorem aWl {st ha:Int} {cs:List (List Vo)} {b v:Nat} (hb:b<cs.length) (hv:v<cs[b].length) (h:Bg st ha cs b v cs[b][v].l.length):Bg st ha cs b (v+1) 0:=by
 intro b' hb' v' hv' i' hi' hlt
 simp only[iK,decide_eq_true_eq] at hlt
 refine h b' hb' v' hv' i' hi' (decide_eq_true ?_)
 by_cases e:b'=b
 ·subst e
  by_cases e2:v'=v
  ·subst e2;exact .inr ⟨rfl,.inr ⟨rfl,hi'⟩⟩
  ·omega
 ·omega
theorem aWm {st ha:Int} {cs:List (List Vo)} {b:Nat} (hb:b<cs.length) (h:Bg st ha cs b cs[b].length 0):Bg st ha cs (b+1) 0 0:=by
 intro b' hb' v' hv' i' hi' hlt
 simp only[iK,decide_eq_true_eq] at hlt
 refine h b' hb' v' hv' i' hi' (decide_eq_true ?_)
 by_cases e:b'=b
 ·subst e;exact .inr ⟨rfl,.inl hv'⟩
 ·omega
theorem csW_v {st ha:Int} {cs:List (List Vo)} {b v:Nat} (hb:b<cs.length) (hv:v<cs[b].length):gU st ha (iK b v cs[b][v].l.length) cs=gU st ha (iK b (v+1) 0) cs:=by
 refine Vf fun b' hb' v' hv' i' hi'=>?_
 simp only[iK]
 congr 1
 by_cases e:b'=b
 ·subst e
  by_cases e2:v'=v
  ·subst e2;simp [hi']
  ·simp;omega
 ·simp;omega
theorem csW_b {st ha:Int} {cs:List (List Vo)} {b:Nat} (hb:b<cs.length):gU st ha (iK b cs[b].length 0) cs=gU st ha (iK (b+1) 0 0) cs:=by
 refine Vf fun b' hb' v' hv' i' hi'=>?_
 simp only[iK]
 congr 1
 by_cases e:b'=b
 ·subst e;simp [hv']
 ·simp;omega
theorem aUs {st ha:Int} {cs:List (List Vo)}:gU st ha (iK cs.length 0 0) cs=gU st ha (fun _ _ _=>true) cs:=Vf fun b hb v hv i hi=>by simp [iK,hb]
theorem aG4 {b v i b' v' i':Nat} (h: ¬(b'=b/\v'=v/\i'=i)):iK b v (i+1) b' v' i'=iK b v i b' v' i':=by
 simp only[iK]
 exact decide_eq_decide.2 (by omega)
theorem aG5 {st ha:Int} {cs:List (List Vo)} {b v i:Nat} (hb:b<cs.length) (hv:v<cs[b].length) (hi:i<cs[b][v].l.length):
  gU st ha (iK b v (i+1)) cs=(gU st ha (iK b v i) cs).set b (((gU st ha (iK b v i) cs).getD b []).set v ⟨(vW st ha (iK b v i b v) cs[b][v]).l.set i (cs[b][v].l[i].up st ha).1⟩):=by
 refine List.ext_getElem (by simp [kP]) fun b' h1 h2=>?_
 rw[qL]
 rw[kP] at h1
 rw[List.getElem_set]
 by_cases e:b=b'
 ·subst e
  rw[if_pos rfl,uF (by rw[kP];exact h1),qL]
  refine List.ext_getElem (by simp) fun v' h3 h4=>?_
  simp only[List.length_mapIdx] at h3
  rw[List.getElem_mapIdx,List.getElem_set]
  by_cases e2:v=v'
  ·subst e2
   rw[if_pos rfl]
   simp only[vW]
   congr 1
   refine List.ext_getElem (by simp) fun i' h5 h6=>?_
   simp only[List.length_mapIdx] at h5
   rw[List.getElem_mapIdx,List.getElem_set]
   by_cases e3:i=i'
   ·subst e3
    rw[if_pos rfl,if_pos (by simp [iK])]
   ·rw[if_neg e3,List.getElem_mapIdx,aG4 (by omega)]
  ·rw[if_neg e2]
   simp only[List.getElem_mapIdx,vW]
   congr 1
   refine List.ext_getElem (by simp) fun i' h5 h6=>?_
   rw[List.getElem_mapIdx,List.getElem_mapIdx,aG4 (by omega)]
 ·rw[if_neg e,qL]
  refine List.ext_getElem (by simp) fun v' h3 h4=>?_
  simp only[List.getElem_mapIdx,vW]
  congr 1
  refine List.ext_getElem (by simp) fun i' h5 h6=>?_
  rw[List.getElem_mapIdx,List.getElem_mapIdx,aG4 (by omega)]
end Go.Proofs.Pv
