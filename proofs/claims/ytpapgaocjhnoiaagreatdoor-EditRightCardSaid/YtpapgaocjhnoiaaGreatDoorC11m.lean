/-
  Layer 9's edits: pitches and keys that go up.
  Layer 9's edits: an event that goes up.
  Layer 9's edits: a score's open lists of which one voice's events are other ones.
  Layer 9's edits: a part's events that go up.
  Conditions: none but those that each statement names.
-/
import Derived.Test.YtpapgaocjhnoiaaGreatDoorC08s
import Derived.Test.YtpapgaocjhnoiaaGreatDoorC08e
import Derived.Test.YtpapgaocjhnoiaaGreatDoorC09a
import Derived.Test.YtpapgaocjhnoiaaGreatDoorD08
import Derived.Test.YtpapgaocjhnoiaaGreatDoorC11i
set_option linter.unusedVariables false
set_option linter.unusedSimpArgs false
namespace Go.Proofs.Pv
open Go Go.Proofs
set_option maxRecDepth 100000
theorem Ya (p:Pi) (h:0≤p.step∧p.step<7∧ -1000≤p.octave∧p.octave≤1000∧ -1000≤p.alter∧p.alter≤1000):PC Tryz.prog gl 138 [p.av] (fun w=>w= .int .i64 p.number):=by
 obtain⟨h1,h2,h3,h4,h5,h6⟩:=h
 obtain⟨s,a,o⟩:=p
 simp only at h1 h2 h3 h4 h5 h6
 rcases aAe h1 h2 with rfl|rfl|rfl|rfl|rfl|rfl|rfl
 all_goals
  (refine PC.introY 1 mix (fn:=Tryz.f138) Tryz.func138 rfl (names 138 _ Tryz.func138) fun F hF hro W=>?_;simp -implicitDefEqProofs only[Tryz.ntmps138,Tryz.results138,aI,Nat.reduceAdd,Nat.reduceSub])
  repeat' (first
  |simp -implicitDefEqProofs (maxSteps:=9999999) (disch:=first|assumption|omega) only[aB,aC,facts,if_pos,Nat.reduceAdd,Nat.reduceLeDiff,Int.reduceToNat,Pi.av,wrap_in, *]
  |((with_reducible refine fH ?_);refine gI _ rfl (by decide+kernel) ?_))
  simp [Pi.number,half]
def Pi.upq (p:Pi) (st:Int):Pi:=⟨(p.line+st+7).tmod 7,0,(p.line+st+7).tdiv 7 - 1⟩
def Pi.up (p:Pi) (st ha:Int):Pi×Int:=
 if¬(p.right=true∧ -77≤st∧st≤77∧ -254≤ha∧ha≤254) then(⟨0,0,0⟩,20) else
 if p.line+st+7<0 then(⟨0,0,0⟩,20) else
 if(⟨(p.upq st).step,p.number+ha - (p.upq st).number,(p.upq st).octave⟩:Pi).right=true then(⟨(p.upq st).step,p.number+ha - (p.upq st).number,(p.upq st).octave⟩,0) else(⟨0,0,0⟩,20)
def tJ (st ha:Int):AV:= .agg [.int .i64 st,.int .i64 ha]
set_option maxHeartbeats 8000000 in
theorem aI9 (p:Pi) (st ha:Int):PC Tryz.prog gl 130 [p.av,tJ st ha] (fun w=>w= .tup [(p.up st ha).1.av,.int .i64 (p.up st ha).2]):=by
  by_cases h0:p.right=true∧ -77≤st∧st≤77∧ -254≤ha∧ha≤254
  · obtain⟨h1,h2,h3,h4,h5⟩:=h0
    have hf:p.fits=true:=by simp only[Pi.right,Bool.and_eq_true] at h1;exact h1.1
    have hf2:=hf
    simp only[Pi.fits,decide_eq_true_eq] at hf2
    have hl: -7≤p.line∧p.line≤69:=by simp only[Pi.line];omega
    have hn: -100≤p.number∧p.number≤1000:=by simp only[Pi.number,half];split<;>omega
    by_cases hneg:p.line+st+7<0
    · rw[show p.up st ha=(⟨0,0,0⟩,20) by rw[Pi.up,if_neg (fun h=>h ⟨h1,h2,h3,h4,h5⟩),if_pos hneg]]
      (refine PC.introY 1 mix (fn:=Tryz.f130) Tryz.func130 rfl (names 130 _ Tryz.func130) fun F hF hro W=>?_;simp -implicitDefEqProofs only[Tryz.ntmps130,Tryz.results130,aI,Nat.reduceAdd,Nat.reduceSub])
      repeat' (first
    |simp -implicitDefEqProofs (maxSteps:=9999999) (disch:=first|assumption|omega) only[aB,aC,facts,if_pos,if_neg,Nat.reduceAdd,Nat.reduceLeDiff,Int.reduceNeg,Int.reduceSub,Pi.av,tJ,wrap_in, *]
    |((with_reducible refine kU 141 ?_);refine dV (zD p hf) (rfl) ?_)
    |((with_reducible refine aH (fun _=>?_) (fun _=>?_))<;>try omega)
    |((with_reducible refine iH (fun _=>?_) (fun _=>?_))<;>try omega)
    |((with_reducible refine fH ?_);refine gI _ rfl (by decide+kernel) ?_)
    | ((with_reducible refine dD 106 ?_);refine PC.useY hF (mF p) (rfl) fun v hv=>?_;subst hv))
      all_goals rfl
    · have e7:p.line+st - -7=p.line+st+7:=by omega
      have hm:(p.line+st+7).tmod 7=(p.line+st+7) % 7:=Int.tmod_eq_emod_of_nonneg (by omega)
      have hd:(p.line+st+7).tdiv 7=(p.line+st+7) / 7:=Int.tdiv_eq_ediv_of_nonneg (by omega)
      have hq:0≤(p.upq st).step∧(p.upq st).step<7∧ -1≤(p.upq st).octave∧(p.upq st).octave≤100:=by simp only[Pi.upq,hm,hd];omega
      have hqn: -100≤(p.upq st).number∧(p.upq st).number≤2000:=by simp only[Pi.number,half];rw[show(p.upq st).alter=0 from rfl];split<;>omega
      obtain⟨q0,hq0⟩: ∃q0,p.upq st=q0:=⟨_,rfl⟩
      have a0:q0.alter=0:=by rw[←hq0];rfl
      have a1:q0.step=(p.line+st+7) % 7:=by rw[←hq0,←hm];rfl
      have a2:q0.octave=(p.line+st+7) / 7+ -1:=by rw[←hq0,←hd];rfl
      rw[hq0] at hq hqn
      have hnum:=Ya q0 (by omega)
      have hup:p.up st ha=if(⟨q0.step,p.number+ha - q0.number,q0.octave⟩:Pi).right=true then(⟨q0.step,p.number+ha - q0.number,q0.octave⟩,0) else(⟨0,0,0⟩,20):=by rw[Pi.up,if_neg (fun h=>h ⟨h1,h2,h3,h4,h5⟩),if_neg hneg,hq0]
      rw[hup]
      have hrt:=mF ⟨q0.step,p.number+ha - q0.number,q0.octave⟩
      simp only[Pi.av] at hnum hrt
      rw[a0,a1,a2] at hnum
      rw[a1,a2] at hrt
      (refine PC.introY 1 mix (fn:=Tryz.f130) Tryz.func130 rfl (names 130 _ Tryz.func130) fun F hF hro W=>?_;simp -implicitDefEqProofs only[Tryz.ntmps130,Tryz.results130,aI,Nat.reduceAdd,Nat.reduceSub])
      repeat' (first
    |simp -implicitDefEqProofs (maxSteps:=9999999) (disch:=first|assumption|omega) only[aB,aC,facts,if_pos,if_neg,Nat.reduceAdd,Nat.reduceEqDiff,Nat.reduceLeDiff,Int.reduceNeg,Int.reduceSub,Pi.av,tJ,wrap_in,e7, *]
    |((with_reducible refine kU 141 ?_);refine dV (zD p hf) (rfl) ?_)
    |((with_reducible refine w_at 138 ?_);refine iP (wX p hf) (rfl) ?_)
    |((with_reducible refine w_at 138 ?_);refine iP hnum (rfl) ?_)
    |((with_reducible refine aH (fun _=>?_) (fun _=>?_))<;>try omega)
    |((with_reducible refine dO (fun _=>?_) (fun _=>?_))<;>try omega)
    |((with_reducible refine iH (fun _=>?_) (fun _=>?_))<;>try omega)
    |((with_reducible refine fH ?_);refine gI _ rfl (by decide+kernel) ?_)
    |((with_reducible refine fH ?_);refine Xc (by decide+kernel) ?_)
    |((with_reducible refine dN ?_ ?_);· decide+kernel)
    |((with_reducible refine dD 106 ?_);refine PC.useY hF (mF p) (rfl) fun v hv=>?_;subst hv)
    |((with_reducible refine dD 106 ?_);refine PC.useY hF hrt (rfl) fun v hv=>?_;subst hv))
  · rw[show p.up st ha=(⟨0,0,0⟩,20) by rw[Pi.up,if_pos h0]]
    by_cases h1:p.right=true
    · have h2: ¬(-77≤st∧st≤77∧ -254≤ha∧ha≤254):=fun h=>h0 ⟨h1,h⟩
      (refine PC.introY 1 mix (fn:=Tryz.f130) Tryz.func130 rfl (names 130 _ Tryz.func130) fun F hF hro W=>?_;simp -implicitDefEqProofs only[Tryz.ntmps130,Tryz.results130,aI,Nat.reduceAdd,Nat.reduceSub])
      repeat' (first
    |simp -implicitDefEqProofs (maxSteps:=9999999) (disch:=first|assumption|omega) only[aB,aC,facts,if_pos,Nat.reduceAdd,Nat.reduceLeDiff,Int.reduceNeg,Int.reduceSub,Pi.av,tJ,wrap_in, *]
    |((with_reducible refine aH (fun _=>?_) (fun _=>?_))<;>try omega)
    |((with_reducible refine iH (fun _=>?_) (fun _=>?_))<;>try omega)
    | ((with_reducible refine dD 106 ?_);refine PC.useY hF (mF p) (rfl) fun v hv=>?_;subst hv))
      all_goals rfl
    · have h1:p.right=false:=by simpa using h1
      (refine PC.introY 1 mix (fn:=Tryz.f130) Tryz.func130 rfl (names 130 _ Tryz.func130) fun F hF hro W=>?_;simp -implicitDefEqProofs only[Tryz.ntmps130,Tryz.results130,aI,Nat.reduceAdd,Nat.reduceSub])
      repeat' (first
    |simp -implicitDefEqProofs (maxSteps:=9999999) (disch:=first|assumption|omega) only[aB,aC,facts,if_pos,Nat.reduceAdd,Int.reduceNeg,Pi.av,tJ, *]
    | ((with_reducible refine dD 106 ?_);refine PC.useY hF (mF p) (rfl) fun v hv=>?_;subst hv))
      all_goals rfl
def Ke.up (k:Ke) (st ha:Int):Ke×Int:=
 if k.right=true then(if(⟨k.fifths+7*ha - 12*st,k.minor⟩:Ke).right=true then(⟨k.fifths+7*ha - 12*st,k.minor⟩,0) else(⟨0,false⟩,30)) else(⟨0,false⟩,30)
set_option maxHeartbeats 4000000 in
theorem aJa (k:Ke) (st ha:Int) (h: -70≤st∧st≤70∧ -120≤ha∧ha≤120):PC Tryz.prog gl 64 [k.av,tJ st ha] (fun w=>w= .tup [(k.up st ha).1.av,.int .i64 (k.up st ha).2]):=by
 by_cases h1:k.right=true
 ·have hf: -7≤k.fifths∧k.fifths≤7:=by simpa [Ke.right] using h1
  have hrt:=zY ⟨k.fifths+7*ha - 12*st,k.minor⟩
  have hrk:=zY k
  rw[Ke.up,if_pos h1]
  simp only[Ke.av] at hrt hrk
  rw[h1] at hrk
  (refine PC.introY 1 mix (fn:=Tryz.f64) Tryz.func64 rfl (names 64 _ Tryz.func64) fun F hF hro W=>?_;simp -implicitDefEqProofs only[Tryz.ntmps64,Tryz.results64,aI,Nat.reduceAdd,Nat.reduceSub])
  repeat' (first
  |simp -implicitDefEqProofs (maxSteps:=9999999) (disch:=first|assumption|omega) only[aB,aC,facts,if_pos,Nat.reduceAdd,Nat.reduceLeDiff,Int.reduceNeg,Ke.av,tJ,wrap_in, *]
  |((with_reducible refine aH (fun _=>?_) (fun _=>?_))<;>try omega)
  |((with_reducible refine dO (fun _=>?_) (fun _=>?_))<;>try omega)
  |((with_reducible refine iH (fun _=>?_) (fun _=>?_))<;>try omega)
  |((with_reducible refine dD 69 ?_);refine PC.useY hF hrk (rfl) fun v hv=>?_;subst hv)
  |((with_reducible refine dD 69 ?_);refine PC.useY hF hrt (rfl) fun v hv=>?_;subst hv))
  all_goals simp_all [Ke.av]
 ·have hrk:=zY k
  have h1:k.right=false:=by simpa using h1
  rw[Ke.up,if_neg (by simp [h1])]
  simp only[Ke.av] at hrk
  (refine PC.introY 1 mix (fn:=Tryz.f64) Tryz.func64 rfl (names 64 _ Tryz.func64) fun F hF hro W=>?_;simp -implicitDefEqProofs only[Tryz.ntmps64,Tryz.results64,aI,Nat.reduceAdd,Nat.reduceSub])
  repeat' (first
  |simp -implicitDefEqProofs (maxSteps:=9999999) (disch:=first|assumption|omega) only[aB,aC,facts,if_pos,Nat.reduceAdd,Int.reduceNeg,Ke.av,tJ, *]
  |((with_reducible refine dD 69 ?_);refine PC.useY hF hrk (rfl) fun v hv=>?_;subst hv))
  all_goals simp_all [Ke.av]
end Go.Proofs.Pv
namespace Go.Proofs.Pv
open Go Go.Proofs
set_option maxRecDepth 100000
def ev0:Ev:=⟨0,[],[],⟨0,0,0,0⟩,[],⟨#[]⟩⟩
def Nr (st ha:Int) (l:List Pi):Bool:=l.any fun p=>!decide ((p.up st ha).2=0)
def Ev.upE (e:Ev) (st ha:Int):Ev:= {e with pitches:=e.pitches.map fun p=>(p.up st ha).1}
def Ev.up (e:Ev) (st ha:Int):Ev×Int:=
 if e.right=true then(if Nr st ha e.pitches=true then(ev0,20) else if(e.upE st ha).right=true then(e.upE st ha,0) else(ev0,60)) else(ev0,60)
theorem aMc (p:Pi) (st ha:Int):(p.up st ha).2=0∨(p.up st ha).2=20:=by
 unfold Pi.up
 repeat' split
 all_goals simp
theorem aF.tk {f:Nat→Option Nat} {h t:List (Nat×aG)} {k:Nat} (K:Nat) (hk:hget h K=some .tok) (hf:f K=some k) (ht:aF f h t):aF f h ((k,.tok)::t):=by
 intro k' b' h'
 simp only[hget] at h'
 split at h'
 ·rename_i e
  simp only[Option.some.injEq] at h'
  subst e;subst h'
  exact⟨K,.tok,hf,hk,rfl⟩
 ·exact ht k' b' h'
theorem aMd {st ha:Int} {l:List Pi} {i:Nat} (h:i<l.length) (hx:(l[i].up st ha).2≠0):Nr st ha l=true:=by
 unfold Nr
 rw[List.any_eq_true]
 exact⟨l[i],List.getElem_mem h,by simpa using hx⟩
theorem aPa {st ha:Int} {l:List Pi} (h: ∀j (hj:j<l.length),(l[j].up st ha).2=0):Nr st ha l=false:=by
 unfold Nr
 rw[List.any_eq_false]
 intro p hp
 obtain⟨j,hj,rfl⟩:=List.getElem_of_mem hp
 simp [h j hj]
def upC (e:Ev) (a:AV):List AV:=[.int .i64 e.kind,a,.sl 1 (e.ties.map AV.bool) .none,.int .i64 e.value.base,.int .i64 e.value.dots,.int .i64 e.value.num,.int .i64 e.value.den,.sl 1 (e.marks.map (AV.int .i64)) .none,.str e.word]
def upL (e:Ev) (st ha:Int):List (Nat×aG):=[(2,.cells [.int .i64 0,.sl 3 [] .full,.sl 1 [] .full,.int .i64 0,.int .i64 0,.int .i64 0,.int .i64 0,.sl 1 [] .full,.str ⟨#[]⟩]),(1,.cells [.int .i64 st,.int .i64 ha]),(0,.cells (upC e (.sl 3 (e.pitches.map Pi.av) .none)))]
def Yp (e:Ev) (st ha:Int):Nat→List (Nat×aG)
 |0=>(7,.cells (upC e (.sl 3 [] .full)))::upL e st ha
 |i+1=>(100,.tok)::(7,.cells (upC e (.sl 3 ((e.pitches.take (i+1)).map fun p=>(p.up st ha).1.av) (.tok 100))))::upL e st ha
set_option maxHeartbeats 8000000 in
theorem aJl (e:Ev) (st ha:Int) (hsm:e.small):PC Tryz.prog gl 100 [e.av,tJ st ha] (fun w=>w= .tup [(e.up st ha).1.av,.int .i64 (e.up st ha).2]):=by
  have hr:=uO e hsm
  by_cases h1:e.right=true
  · have hct:=Hg e.ties hsm.2.1
    have hcm:=rF e.marks hsm.2.2
    rw[h1] at hr
    simp only[Ev.av] at hr
    rw[Ev.up,if_pos h1]
    (refine PC.introZ 2 mix (fn:=Tryz.f100) Tryz.func100 rfl (names 100 _ Tryz.func100) fun F hF hro W=>?_;simp -implicitDefEqProofs only[Tryz.ntmps100,Tryz.results100,aI,Nat.reduceAdd,Nat.reduceSub])
    repeat' (first
    |simp -implicitDefEqProofs (maxSteps:=9999999) only[↓reduceIte,aB,aC,facts,Nat.reduceAdd,Nat.reduceEqDiff,Nat.reduceLeDiff,Ev.av,tJ, *]
    |((with_reducible refine w_at 87 ?_);refine iP hct (rfl) ?_)
    |((with_reducible refine w_at 80 ?_);refine iP hcm (rfl) ?_)
    |((with_reducible refine aQ ?_);refine jB (by decide+kernel) ?_)
    |((with_reducible refine dN ?_ ?_);· decide+kernel)
    |((with_reducible refine aT 65 ?_);refine PC.useZ hF hr (rfl) fun v hv=>?_;subst hv))
    have hlp:=hsm.1
    refine jY (jQ 54 [2,3,4,5,6,26,27,28]) 101 e.pitches.length (fun i (_:Unit)=>⟨[.ud,.ud,.ptr 0 0,.ptr 1 0,.ptr 2 0,.int .i64 0,.ptr 7 0,.ud,.ud,.ud,.ud,.ud,.ud,.ud,.ud,.ud,.ud,.ud,.ud,.ud,.ud,.ud,.ud,.ud,.ud,.ud,.sl 3 (e.pitches.map Pi.av) .none,.int .i64 (e.pitches.length:Nat),.int .i64 (i:Nat),.ud,.ud,.ud,.ud,.ud,.ud,.ud,.ud,.ud,.ud,.ud,.ud,.ud,.ud,.ud,.ud,.ud,.ud,.ud,.ud,.ud,.ud,.ud,.ud,.ud],[]⟩) (fun i _=>⟨Yp e st ha i,101⟩) (fun i _=>i<1000001∧ ∀j (h:j<e.pitches.length),j<i→(e.pitches[j].up st ha).2=0) ⟨(),⟨by omega,fun j h hj=>by omega⟩,bI 25 [],gK 25 [],dF.of_fit rfl rfl rfl,aF.cons 7 rfl rfl rfl (aF.cons 2 rfl rfl rfl (aF.cons 1 rfl rfl rfl (aF.cons 0 rfl rfl rfl aF.nil))),rfl,rfl⟩ ?_
    rintro i x hi ⟨hi2,hQ⟩
    rcases Nat.lt_or_ge i e.pitches.length with hlt|hge
    · have hup:=aI9 e.pitches[i] st ha
      have hgi:(e.pitches.map Pi.av)[i]?=some (Pi.av e.pitches[i]):=by rw[List.getElem?_map,List.getElem?_eq_getElem hlt];rfl
      have hg2:e.pitches[i]?=some e.pitches[i]:=List.getElem?_eq_getElem hlt
      generalize hpi:e.pitches[i]=q at hup hgi hg2
      simp only[Pi.av,tJ] at hup
      obtain⟨u,x,hux⟩: ∃u x,q.up st ha=(u,x):=⟨_,_,rfl⟩
      rw[hux] at hup
      rcases i with _|i
      · simp only[Yp,upL,upC]
        repeat' (first
    |simp -implicitDefEqProofs (maxSteps:=9999999) only[↓reduceIte,aB,aC,facts,Nat.reduceAdd,Nat.reduceEqDiff,Nat.reduceLT,Nat.reduceLeDiff,Int.reduceLE,Int.reduceNeg,Int.reduceAdd,AV.cells,AV.one,wrap_in,Pi.av,aX,wE, *]
    |((with_reducible refine aH (fun _=>?_) (fun _=>?_))<;>try omega)
    |((with_reducible refine dI (fun _=>?_) (fun _=>?_))<;>try omega)
    | ((with_reducible refine aT 130 ?_);refine PC.useZ hF hup (rfl) fun v hv=>?_;subst hv))
        · have hb:Nr st ha e.pitches=true:=aMd hlt (by rw[hpi,hux];exact fun h=>by simp_all)
          have h20:x=20:=by
            have:=aMc q st ha
            rw[hux] at this
            rcases this with h|h
            · simp only at h;simp_all
            · exact h
          rw[if_pos hb,h20];rfl
        · have hx0:x=0:=by simp_all
          refine dM 0 () hlt (by omega) ⟨by omega,fun j h hj=>?_⟩ (bI 25 [(120,100)]) (gK 25 [(120,100)]) (dF.of_fit rfl rfl rfl) ?_ rfl rfl
          · rcases Nat.lt_or_ge j (0) with h9|h9
            · exact hQ j h h9
            · have:j=0:=by omega
              subst this
              rw[hpi,hux];exact hx0
          · refine aF.tk 120 rfl rfl (aF.cons 7 rfl rfl ?_ (aF.cons 2 rfl rfl rfl (aF.cons 1 rfl rfl rfl (aF.cons 0 rfl rfl rfl aF.nil))))
            simp only[List.take_succ_eq_append_getElem hlt,List.map_append,List.map_cons,List.map_nil,hpi,hux,List.take_zero,List.nil_append]
            rfl
      · have hcap:((List.take (i+1) e.pitches).length+1)*24≤140737488355328:=by rw[List.length_take];omega
        simp only[Yp,upL,upC]
        repeat' (first
    |simp -implicitDefEqProofs (maxSteps:=9999999) only[↓reduceIte,aB,aC,facts,Nat.reduceAdd,Nat.reduceEqDiff,Nat.reduceLT,Nat.reduceLeDiff,AV.cells,AV.one,Pi.av,aX,wE, *]
    |simp -implicitDefEqProofs (maxSteps:=9999999) (disch:=first|assumption|omega) only[wrap_in, *]
    |((with_reducible refine aH (fun _=>?_) (fun _=>?_))<;>try omega)
    |((with_reducible refine dI (fun _=>?_) (fun _=>?_))<;>try omega)
    | ((with_reducible refine aT 130 ?_);refine PC.useZ hF hup (rfl) fun v hv=>?_;subst hv))
        · have hb:Nr st ha e.pitches=true:=aMd hlt (by rw[hpi,hux];exact fun h=>by simp_all)
          have h20:x=20:=by
            have:=aMc q st ha
            rw[hux] at this
            rcases this with h|h
            · simp only at h;simp_all
            · exact h
          rw[if_pos hb,h20];rfl
        · have hx0:x=0:=by simp_all
          have hQ2:i+1+1<1000001∧ ∀j (h:j<e.pitches.length),j<i+1+1→(e.pitches[j].up st ha).2=0:=⟨by omega,fun j h hj=>by
            rcases Nat.lt_or_ge j (i+1) with h9|h9
            · exact hQ j h h9
            · have:j=i+1:=by omega
              subst this
              rw[hpi,hux];exact hx0⟩
          refine dM (i+1) () hlt rfl hQ2 (bI 25 [(120,100)]) (gK 25 [(120,100)]) (dF.of_fit rfl rfl rfl) ?_ rfl rfl
          · refine aF.tk 120 rfl rfl (aF.cons 7 rfl rfl ?_ (aF.cons 2 rfl rfl rfl (aF.cons 1 rfl rfl rfl (aF.cons 0 rfl rfl rfl aF.nil))))
            simp only[List.take_succ_eq_append_getElem hlt,List.map_append,List.map_cons,List.map_nil,hpi,hux,List.append_nil]
            rfl
    · have he:i=e.pitches.length:=by omega
      subst he
      have hnb:=aPa (st:=st) (ha:=ha) fun j hj=>hQ j hj hj
      have hmap:(e.pitches.map fun p=>(p.up st ha).1.av)=(e.upE st ha).pitches.map Pi.av:=by simp [Ev.upE]
      have hr2:=uO (e.upE st ha) ⟨by simp only[Ev.upE,List.length_map];exact hsm.1,hsm.2.1,hsm.2.2⟩
      rw[if_neg (by rw[hnb];decide)]
      simp only[Ev.av] at hr2
      rcases Nat.eq_zero_or_pos e.pitches.length with hn|hn
      · have hnil:e.pitches=[]:=List.length_eq_zero_iff.1 hn
        have hun:(e.upE st ha).pitches=[]:=by simp [Ev.upE,hnil]
        simp only[hun,List.map_nil] at hr2
        rw[show Yp e st ha e.pitches.length=Yp e st ha 0 by rw[hn]]
        simp only[Yp,upL,upC,hnil]
        repeat' (first
    |simp -implicitDefEqProofs (maxSteps:=9999999) only[↓reduceIte,aB,aC,facts,Nat.reduceAdd,Nat.reduceEqDiff,Nat.reduceSub,Int.reduceLT,AV.cells,AV.one,aX, *]
    |((with_reducible refine dO (fun _=>?_) (fun _=>?_))<;>try omega)
    | ((with_reducible refine aT 65 ?_);refine PC.useZ hF hr2 (rfl) fun v hv=>?_;subst hv))
        all_goals rfl
      · obtain⟨n,hn⟩: ∃n,e.pitches.length=n+1:=⟨e.pitches.length - 1,by omega⟩
        have htk:List.take (n+1) e.pitches=e.pitches:=by rw[←hn,List.take_length]
        rw[show Yp e st ha e.pitches.length=Yp e st ha (n+1) by rw[hn]]
        simp only[Yp,upL,upC,htk]
        repeat' (first
    |simp -implicitDefEqProofs (maxSteps:=9999999) only[↓reduceIte,aB,aC,facts,Nat.reduceAdd,Nat.reduceEqDiff,AV.cells,AV.one,aX, *]
    |simp -implicitDefEqProofs (maxSteps:=9999999) (disch:=first|assumption|omega) only[*]
    |((with_reducible refine aH (fun _=>?_) (fun _=>?_))<;>try omega)
    |((with_reducible refine dO (fun _=>?_) (fun _=>?_))<;>try omega)
    | ((with_reducible refine aT 65 ?_);refine PC.useZ hF hr2 (rfl) fun v hv=>?_;subst hv))
        all_goals rfl
  · have h1:e.right=false:=by simpa using h1
    rw[h1] at hr
    simp only[Ev.av] at hr
    rw[Ev.up,if_neg (by simp [h1])]
    (refine PC.introZ 2 mix (fn:=Tryz.f100) Tryz.func100 rfl (names 100 _ Tryz.func100) fun F hF hro W=>?_;simp -implicitDefEqProofs only[Tryz.ntmps100,Tryz.results100,aI,Nat.reduceAdd,Nat.reduceSub])
    repeat' (first
    |simp -implicitDefEqProofs (maxSteps:=9999999) only[↓reduceIte,aB,aC,facts,Nat.reduceAdd,Nat.reduceEqDiff,Ev.av,tJ, *]
    |((with_reducible refine aT 65 ?_);refine PC.useZ hF hr (rfl) fun v hv=>?_;subst hv))
    all_goals rfl
end Go.Proofs.Pv
namespace Go.Proofs.Pv
open Go Go.Proofs
set_option maxRecDepth 100000
def TZ (ps:List Pa):List (Nat×aG):=hC (dS 22 (iM dG 1020 ps))++hC (dS 1020 (deep dG 1020 ps))
structure rW (ps:List Pa):Prop where
 n:ps.length≤400
 c:fE dG ps≤900000
theorem aEu (s:Sc):lD dG s=TZ s.parts:=by
 rw[lD,Zo,Es,sJ,nC,nC,Au,Ko];rfl
theorem xP {ps:List Pa} (h:rW ps):iC 22 1000000 (TZ ps):=by
 have h1:=h.n
 have h2:=h.c
 exact iC.app ((iC.fam (m:=1000000) (by rw[iI];omega)).wide (by omega) (Nat.le_refl _)) ((iC.fam (m:=1000000) (by rw[qY];omega)).wide (by omega) (Nat.le_refl _))
theorem aDy {ps:List Pa} (h:rW ps):qK dG (hget (TZ ps)) 22 1020 ps:=by
 have h1:=h.n
 refine qK.of (fun q hq=>?_) fun q hq=>?_
 ·rw[TZ,bJ,iF hq]
 ·rw[TZ,bJ,uJ (by rw[iI];omega)];exact iF hq
theorem aEv: ∀(K:Nat) (l:List (List AV)) (q:Nat) (x:List AV),q<l.length→hset (hC (dS K l)) (K+q) (.cells x)=hC (dS K (l.set q x))
 |K,[],q,x,h=>by simp at h
 |K,y::l,0,x,h=>by simp [dS,hC,hset]
 |K,y::l,q+1,x,h=>by
  have ih:=aEv (K+1) l q x (by simpa using h)
  rw[show K+1+q=K+(q+1) by omega] at ih
  simp only[hC] at ih
  simp only[dS,hC,List.map_cons,hset,List.set_cons_succ,ih]
  rw[if_neg (by omega)]
theorem aCe {k:Nat} {b:aG}: ∀ {A B:List (Nat×aG)},hget A k=none→hset (A++B) k b=A++hset B k b
 |[],B,h=>rfl
 | (q,x)::A,B,h=>by
  simp only[hget] at h
  split at h
  ·cases h
  ·rename_i hne
   simp only[List.cons_append,hset,if_neg hne,aCe h]
theorem aCf: ∀(K:Nat) (c:List Vo) (v:Nat) (w:Vo) (h:v<c.length),w.l.length=c[v].l.length→kT K (c.set v w)=kT K c
 |K,[],v,w,h,_=>by simp at h
 |K,x::c,0,w,h,hl=>by
  simp only[List.getElem_cons_zero] at hl
  simp only[List.set_cons_zero,kT,hl]
 |K,x::c,v+1,w,h,hl=>by
  simp only[List.getElem_cons_succ] at hl
  simp only[List.set_cons_succ,kT,aCf (K+1) c v w (by simpa using h) hl]
theorem Ri: ∀(K:Nat) (cs:List (List Vo)) (b:Nat) (c:List Vo) (h:b<cs.length),c.length=cs[b].length→dZ dG K (cs.set b c)=dZ dG K cs∧cnt dG (cs.set b c)=cnt dG cs
 |K,[],b,c,h,_=>by simp at h
 |K,x::cs,0,c,h,hl=>by
  simp only[List.getElem_cons_zero] at hl
  simp only[List.set_cons_zero,dZ,cnt,dG,Zf,hl,and_self]
 |K,x::cs,b+1,c,h,hl=>by
  simp only[List.getElem_cons_succ] at hl
  have ih:=Ri (K+dG.sz x) cs b c (by simpa using h) hl
  simp only[List.set_cons_succ,dZ,cnt,ih.1,ih.2,and_self]
theorem aIb: ∀(K:Nat) (cs:List (List Vo)) (b v:Nat) (w:Vo) (h:b<cs.length) (hv:v<cs[b].length),w.l.length=cs[b][v].l.length→csB dG K (cs.set b (cs[b].set v w))=(csB dG K cs).set (cnt dG (cs.take b)+(v+1)) (wF w)
 |K,[],b,v,w,h,hv,_=>by simp at h
 |K,x::cs,0,v,w,h,hv,hl=>by
  simp only[List.getElem_cons_zero] at hl hv ⊢
  have hlen:(x.set v w).length=x.length:=List.length_set
  simp only[List.set_cons_zero,csB,dG,Zf,hlen,List.take_zero,cnt,Nat.zero_add,List.cons_append,List.set_cons_succ,aCf (K+1) x v w hv hl]
  rw[List.set_append_left _ _ (by simpa using hv),List.map_set]
 |K,x::cs,b+1,v,w,h,hv,hl=>by
  simp only[List.getElem_cons_succ] at hl hv ⊢
  have ih:=aIb (K+dG.sz x) cs b v w (by simpa using h) hv hl
  simp only[List.set_cons_succ,csB,ih,List.take_succ_cons,cnt]
  rw[List.set_append_right _ _ (by rw[dG.len];omega),dG.len,show dG.sz x+cnt dG (cs.take b)+(v+1) - dG.sz x=cnt dG (cs.take b)+(v+1) by omega]
theorem aMf: ∀(D:Nat) (ps:List Pa) (j:Nat) (p:Pa) (q:Nat) (x:List AV) (h:j<ps.length),(∀K,dZ dG K p.cells=dZ dG K ps[j].cells)→cnt dG p.cells=cnt dG ps[j].cells→p.dyns=ps[j].dyns→q<cnt dG ps[j].cells→(∀K,csB dG K p.cells=(csB dG K ps[j].cells).set q x)→
  iM dG D (ps.set j p)=iM dG D ps∧deep dG D (ps.set j p)=(deep dG D ps).set (eF dG ps j+q) x∧fE dG (ps.set j p)=fE dG ps
 |D,[],j,p,q,x,h,_,_,_,_,_=>by simp at h
 |D,y::ps,0,p,q,x,h,h1,h2,h3,h4,h5=>by
  simp only[List.getElem_cons_zero] at h1 h2 h3 h4 h5
  refine⟨by simp only[List.set_cons_zero,iM,h1,h2,h3],?_,by simp only[List.set_cons_zero,fE,h2]⟩
  simp only[List.set_cons_zero,deep,h5,h2,eF,List.take_zero,fE,Nat.zero_add]
  rw[List.set_append_left _ _ (by rw[jZ];exact h4)]
 |D,y::ps,j+1,p,q,x,h,h1,h2,h3,h4,h5=>by
  simp only[List.getElem_cons_succ] at h1 h2 h3 h4 h5
  obtain⟨i1,i2,i3⟩:=aMf (D+cnt dG y.cells) ps j p q x (by simpa using h) h1 h2 h3 h4 h5
  refine⟨by simp only[List.set_cons_succ,iM,i1],?_,by simp only[List.set_cons_succ,fE,i3]⟩
  simp only[List.set_cons_succ,deep,i2,Aj]
  rw[List.set_append_right _ _ (by rw[jZ];omega),jZ,show cnt dG y.cells+eF dG ps j+q - cnt dG y.cells=eF dG ps j+q by omega]
def Pa.vset (p:Pa) (b v:Nat) (w:Vo):Pa:= {p with cells:=p.cells.set b ((p.cells.getD b []).set v w)}
theorem aUb {cs:List (List Vo)} {b v:Nat} (h:b<cs.length) (hv:v<cs[b].length):cnt dG (cs.take b)+(v+1)<cnt dG cs:=by
 have:cnt dG cs=cnt dG (cs.take b)+dG.sz cs[b]+cnt dG (cs.drop (b+1)):=by
  conv=>lhs;rw[Bg h,Ep]
  simp only[cnt];omega
 rw[this,show dG.sz cs[b]=1+cs[b].length from rfl];omega
theorem aUc {ps:List Pa} (hok:rW ps) {j b v:Nat} (hj:j<ps.length) (hb:b<ps[j].cells.length) (hv:v<ps[j].cells[b].length) {w:Vo} (hw:w.l.length=ps[j].cells[b][v].l.length):
  hset (TZ ps) (1020+eF dG ps j+cnt dG (ps[j].cells.take b)+(v+1)) (.cells (wF w))=TZ (ps.set j (ps[j].vset b v w))∧rW (ps.set j (ps[j].vset b v w)):=by
 have hg:ps[j].cells.getD b []=ps[j].cells[b]:=sN hb
 have hlen:(ps[j].cells[b].set v w).length=ps[j].cells[b].length:=List.length_set
 have hlt:=aUb hb hv
 have hn:=hok.n
 obtain⟨i1,i2,i3⟩:=aMf 1020 ps j (ps[j].vset b v w) (cnt dG (ps[j].cells.take b)+(v+1)) (wF w) hj (fun K=>by rw[Pa.vset,hg];exact(Ri K _ _ _ hb hlen).1) (by rw[Pa.vset,hg];exact(Ri 0 _ _ _ hb hlen).2) rfl hlt (fun K=>by rw[Pa.vset,hg];exact aIb K _ _ _ _ hb hv hw)
 have hoff:=Lm (Φ:=dG) ps j ps.length hj hj
 have hall:eF dG ps ps.length=fE dG ps:=by rw[eF,List.take_length]
 refine⟨?_,⟨by rw[List.length_set];exact hok.n,by rw[i3];exact hok.c⟩⟩
 rw[TZ,TZ,i1,i2,aCe (uJ (by rw[iI];omega)),show 1020+eF dG ps j+cnt dG (ps[j].cells.take b)+(v+1)=1020+(eF dG ps j+(cnt dG (ps[j].cells.take b)+(v+1))) by omega,aEv _ _ _ _ (by rw[qY];omega)]
end Go.Proofs.Pv
namespace Go.Proofs.Pv
open Go Go.Proofs
set_option maxRecDepth 100000
def vW (st ha:Int) (P:Nat→Bool) (x:Vo):Vo:=⟨x.l.mapIdx fun i e=>if P i=true then(e.up st ha).1 else e⟩
def gQ (st ha:Int) (P:Nat→Nat→Nat→Bool) (cs:List (List Vo)):List (List Vo):=cs.mapIdx fun b c=>c.mapIdx fun v x=>vW st ha (P b v) x
def iD (b v i b' v' i':Nat):Bool:=decide (b'<b∨b'=b∧(v'<v∨v'=v∧i'<i))
section
variable {st ha:Int} {P P':Nat→Nat→Nat→Bool} {cs:List (List Vo)}
theorem kK:(gQ st ha P cs).length=cs.length:=List.length_mapIdx
theorem qR {b:Nat} (h:b< (gQ st ha P cs).length):(gQ st ha P cs)[b]=(cs[b]'(by rw[kK] at h;exact h)).mapIdx fun v x=>vW st ha (P b v) x:=List.getElem_mapIdx
theorem Ui (h: ∀b (hb:b<cs.length) v (hv:v<cs[b].length) i (hi:i<cs[b][v].l.length),P b v i=P' b v i):gQ st ha P cs=gQ st ha P' cs:=by
 refine List.ext_getElem (by rw[kK,kK]) fun b h1 h2=>?_
 rw[qR,qR]
 rw[kK] at h1
 refine List.ext_getElem (by simp) fun v h3 h4=>?_
 simp only[List.length_mapIdx] at h3
 simp only[List.getElem_mapIdx,vW]
 congr 1
 refine List.ext_getElem (by simp) fun i h5 h6=>?_
 simp only[List.length_mapIdx] at h5
 simp only[List.getElem_mapIdx,h b h1 v h3 i h5]
theorem aGr: ∀(P:Nat→Nat→Nat→Bool) (cs:List (List Vo)) (b:Nat),cnt dG ((gQ st ha P cs).take b)=cnt dG (cs.take b)
 |P,[],b=>by simp [gQ]
 |P,c::cs,0=>by simp
 |P,c::cs,b+1=>by
  have:=aGr (fun b=>P (b+1)) cs b
  simp only[gQ,List.mapIdx_cons,List.take_succ_cons,cnt,dG,Zf,List.length_mapIdx] at this ⊢
  simp only[this]
end
def jL (ps:List Pa) (j:Nat) (cs:List (List Vo)):List Pa:=ps.set j {ps.getD j pa0 with cells:=cs}
theorem aAk {ps:List Pa} {j:Nat} {cs:List (List Vo)} (h:j<ps.length) (h2:j< (jL ps j cs).length):(jL ps j cs)[j]= {ps.getD j pa0 with cells:=cs}:=List.getElem_set_self _
theorem aBw {ps:List Pa} {j:Nat} {cs:List (List Vo)}:eF dG (jL ps j cs) j=eF dG ps j:=by
 rw[eF,eF,jL,List.take_set_of_le (Nat.le_refl _)]
theorem aU8 {st ha:Int} {P:Nat→Nat→Nat→Bool} {cs:List (List Vo)} (h: ∀b v i,P b v i=false):gQ st ha P cs=cs:=by
 refine List.ext_getElem kK fun b h1 h2=>?_
 rw[qR]
 refine List.ext_getElem (by simp) fun v h3 h4=>?_
 simp only[List.getElem_mapIdx,vW]
 rcases hx:cs[b][v] with⟨l⟩
 congr 1
 refine List.ext_getElem (by simp) fun i h5 h6=>?_
 simp [h b v i]
theorem Qh: ∀(ps:List Pa) (j:Nat) (p:Pa) (h:j<ps.length),cnt dG p.cells=cnt dG ps[j].cells→fE dG (ps.set j p)=fE dG ps
 |[],j,p,h,_=>by simp at h
 |q::ps,0,p,h,h1=>by
  simp only[List.getElem_cons_zero] at h1
  simp only[List.set_cons_zero,fE,h1]
 |q::ps,j+1,p,h,h1=>by
  simp only[List.getElem_cons_succ] at h1
  simp only[List.set_cons_succ,fE,Qh ps j p (by simpa using h) h1]
theorem aAl {st ha:Int} {P:Nat→Nat→Nat→Bool} {cs:List (List Vo)}:cnt dG (gQ st ha P cs)=cnt dG cs:=by
 have:=aGr (st:=st) (ha:=ha) P cs cs.length
 rwa [List.take_length,show List.take cs.length (gQ st ha P cs)=gQ st ha P cs by rw[←kK (st:=st) (ha:=ha) (P:=P),List.take_length]] at this
theorem aGs {ps:List Pa} (hok:rW ps) {j:Nat} (hj:j<ps.length) {cs':List (List Vo)} (h:cnt dG cs'=cnt dG ps[j].cells):rW (jL ps j cs'):=by
 refine⟨by rw[jL,List.length_set];exact hok.n,?_⟩
 rw[jL,Qh _ _ _ hj (by exact h)];exact hok.c
theorem xF {f:Nat→Option Nat} {h:List (Nat×aG)} {ps:List Pa} (hok:rW ps) (hf: ∀k,k<1000000→f k=some k) (hg: ∀k b,hget (TZ ps) k=some b→hget h k=some b):aF f h (TZ ps):=by
 have h1:=hok.n
 have h2:=hok.c
 refine aF.app (aF.famM (wS 1020 1020 ps fun j hj=>hf _ (by omega)) (fun j hj=>hf _ (by rw[iI] at hj;omega)) fun q hq=>hg _ _ (by rw[TZ,bJ,iF hq])) (aF.famM (zL 1020 1020 ps fun j hj=>hf _ (by omega)) (fun j hj=>hf _ (by rw[qY] at hj;omega)) fun q hq=>hg _ _ ?_)
 rw[TZ,bJ,uJ (by rw[iI];omega)];exact iF hq
def Ee (cs:List (List Vo)):List Ev:=cs.flatMap fun c=>c.flatMap fun v=>v.l
def iL (st ha:Int) (cs:List (List Vo)):Int:=(((Ee cs).find? fun e=>decide ((e.up st ha).2≠0)).map fun e=>(e.up st ha).2).getD 0
theorem aOr {cs:List (List Vo)} {b v i:Nat} (hb:b<cs.length) (hv:v<cs[b].length) (hi:i<cs[b][v].l.length):
  Ee cs=(Ee (cs.take b)++((cs[b].take v).flatMap (fun v=>v.l)++cs[b][v].l.take i))++cs[b][v].l[i]::(cs[b][v].l.drop (i+1)++((cs[b].drop (v+1)).flatMap (fun v=>v.l)++Ee (cs.drop (b+1)))):=by
 conv=>lhs;rw[Ee,Bg hb,List.flatMap_append,List.flatMap_cons]
 have e2:(cs[b].flatMap fun v=>v.l)=(cs[b].take v).flatMap (fun v=>v.l)++(cs[b][v].l++(cs[b].drop (v+1)).flatMap fun v=>v.l):=by
  conv=>lhs;rw[Bg hv,List.flatMap_append,List.flatMap_cons]
 have e3:cs[b][v].l=cs[b][v].l.take i++cs[b][v].l[i]::cs[b][v].l.drop (i+1):=Bg hi
 rw[e2]
 conv=>lhs;rw[e3]
 simp only[Ee,List.append_assoc,List.cons_append]
def zX (st ha:Int) (cs:List (List Vo)) (b v i:Nat):Prop:= ∀b' (hb:b'<cs.length) v' (hv:v'<cs[b'].length) i' (hi:i'<cs[b'][v'].l.length),iD b v i b' v' i'=true→(cs[b'][v'].l[i'].up st ha).2=0
theorem aTk {st ha:Int} {cs:List (List Vo)} {b v i:Nat} (hb:b<cs.length) (hv:v<cs[b].length) (h:zX st ha cs b v i): ∀e∈Ee (cs.take b)++((cs[b].take v).flatMap (fun v=>v.l)++cs[b][v].l.take i),(e.up st ha).2=0:=by
 intro e he
 simp only[List.mem_append] at he
 rcases he with he|he|he
 ·simp only[Ee,List.mem_flatMap] at he
  obtain⟨c,hc,w,hw,hx⟩:=he
  obtain⟨b',hb',rfl⟩:=List.getElem_of_mem hc
  obtain⟨v',hv',rfl⟩:=List.getElem_of_mem hw
  obtain⟨i',hi',rfl⟩:=List.getElem_of_mem hx
  simp only[List.length_take] at hb'
  simp only[List.getElem_take] at hv' hi' ⊢
  exact h b' (by omega) v' hv' i' hi' (decide_eq_true (.inl (by omega)))
 ·simp only[List.mem_flatMap] at he
  obtain⟨w,hw,hx⟩:=he
  obtain⟨v',hv',rfl⟩:=List.getElem_of_mem hw
  obtain⟨i',hi',rfl⟩:=List.getElem_of_mem hx
  simp only[List.length_take] at hv'
  simp only[List.getElem_take] at hi' ⊢
  exact h b hb v' (by omega) i' hi' (decide_eq_true (.inr ⟨rfl,.inl (by omega)⟩))
 ·obtain⟨i',hi',rfl⟩:=List.getElem_of_mem he
  simp only[List.length_take] at hi'
  simp only[List.getElem_take]
  exact h b hb v hv i' (by omega) (decide_eq_true (.inr ⟨rfl,.inr ⟨rfl,by omega⟩⟩))
theorem aHs {st ha:Int} {cs:List (List Vo)} {b v i:Nat} (hb:b<cs.length) (hv:v<cs[b].length) (hi:i<cs[b][v].l.length) (h:zX st ha cs b v i) (hx:(cs[b][v].l[i].up st ha).2≠0):iL st ha cs=(cs[b][v].l[i].up st ha).2:=by
 have hz:=aTk hb hv h
 rw[iL,aOr hb hv hi,List.find?_append,List.find?_eq_none.2 (fun e he=>by simp [hz e he])]
 simp [List.find?_cons,hx]
theorem aLd {st ha:Int} {cs:List (List Vo)} (h:zX st ha cs cs.length 0 0):iL st ha cs=0:=by
 rw[iL,List.find?_eq_none.2 (fun e he=>?_)]
 ·rfl
 ·simp only[Ee,List.mem_flatMap] at he
  obtain⟨c,hc,w,hw,hx⟩:=he
  obtain⟨b',hb',rfl⟩:=List.getElem_of_mem hc
  obtain⟨v',hv',rfl⟩:=List.getElem_of_mem hw
  obtain⟨i',hi',rfl⟩:=List.getElem_of_mem hx
  have:=h b' hb' v' hv' i' hi' (decide_eq_true (.inl hb'))
  simp [this]
theorem aOs {st ha:Int} {cs:List (List Vo)} {b v i:Nat} (hb:b<cs.length) (hv:v<cs[b].length) (hi:i<cs[b][v].l.length) (h:zX st ha cs b v i) (hx:(cs[b][v].l[i].up st ha).2=0):zX st ha cs b v (i+1):=by
 intro b' hb' v' hv' i' hi' hlt
 simp only[iD,decide_eq_true_eq] at hlt
 by_cases e:b'=b∧v'=v∧i'=i
 ·obtain⟨rfl,rfl,rfl⟩:=e;exact hx
 ·exact h b' hb' v' hv' i' hi' (decide_eq_true (by omega))
theorem aU9 {st ha:Int} {cs:List (List Vo)} {b v:Nat} (hb:b<cs.length) (hv:v<cs[b].length) (h:zX st ha cs b v cs[b][v].l.length):zX st ha cs b (v+1) 0:=by
 intro b' hb' v' hv' i' hi' hlt
 simp only[iD,decide_eq_true_eq] at hlt
 refine h b' hb' v' hv' i' hi' (decide_eq_true ?_)
 by_cases e:b'=b
 ·subst e
  by_cases e2:v'=v
  ·subst e2;exact .inr ⟨rfl,.inr ⟨rfl,hi'⟩⟩
  ·omega
 ·omega
theorem aVa {st ha:Int} {cs:List (List Vo)} {b:Nat} (hb:b<cs.length) (h:zX st ha cs b cs[b].length 0):zX st ha cs (b+1) 0 0:=by
 intro b' hb' v' hv' i' hi' hlt
 simp only[iD,decide_eq_true_eq] at hlt
 refine h b' hb' v' hv' i' hi' (decide_eq_true ?_)
 by_cases e:b'=b
 ·subst e;exact .inr ⟨rfl,.inl hv'⟩
 ·omega
theorem csW_v {st ha:Int} {cs:List (List Vo)} {b v:Nat} (hb:b<cs.length) (hv:v<cs[b].length):gQ st ha (iD b v cs[b][v].l.length) cs=gQ st ha (iD b (v+1) 0) cs:=by
 refine Ui fun b' hb' v' hv' i' hi'=>?_
 simp only[iD]
 congr 1
 by_cases e:b'=b
 ·subst e
  by_cases e2:v'=v
  ·subst e2;simp [hi']
  ·simp;omega
 ·simp;omega
theorem csW_b {st ha:Int} {cs:List (List Vo)} {b:Nat} (hb:b<cs.length):gQ st ha (iD b cs[b].length 0) cs=gQ st ha (iD (b+1) 0 0) cs:=by
 refine Ui fun b' hb' v' hv' i' hi'=>?_
 simp only[iD]
 congr 1
 by_cases e:b'=b
 ·subst e;simp [hv']
 ·simp;omega
theorem aTl {st ha:Int} {cs:List (List Vo)}:gQ st ha (iD cs.length 0 0) cs=gQ st ha (fun _ _ _=>true) cs:=Ui fun b hb v hv i hi=>by simp [iD,hb]
theorem aGt {b v i b' v' i':Nat} (h: ¬(b'=b∧v'=v∧i'=i)):iD b v (i+1) b' v' i'=iD b v i b' v' i':=by
 simp only[iD]
 exact decide_eq_decide.2 (by omega)
theorem aGu {st ha:Int} {cs:List (List Vo)} {b v i:Nat} (hb:b<cs.length) (hv:v<cs[b].length) (hi:i<cs[b][v].l.length):
  gQ st ha (iD b v (i+1)) cs=(gQ st ha (iD b v i) cs).set b (((gQ st ha (iD b v i) cs).getD b []).set v ⟨(vW st ha (iD b v i b v) cs[b][v]).l.set i (cs[b][v].l[i].up st ha).1⟩):=by
 refine List.ext_getElem (by simp [kK]) fun b' h1 h2=>?_
 rw[qR]
 rw[kK] at h1
 rw[List.getElem_set]
 by_cases e:b=b'
 ·subst e
  rw[if_pos rfl,sN (by rw[kK];exact h1),qR]
  refine List.ext_getElem (by simp) fun v' h3 h4=>?_
  simp only[List.length_mapIdx] at h3
  rw[List.getElem_mapIdx,List.getElem_set]
  by_cases e2:v=v'
  ·subst e2
   rw[if_pos rfl]
   simp only[vW]
   congr 1
   refine List.ext_getElem (by simp) fun i' h5 h6=>?_
   simp only[List.length_mapIdx] at h5
   rw[List.getElem_mapIdx,List.getElem_set]
   by_cases e3:i=i'
   ·subst e3
    rw[if_pos rfl,if_pos (by simp [iD])]
   ·rw[if_neg e3,List.getElem_mapIdx,aGt (by omega)]
  ·rw[if_neg e2]
   simp only[List.getElem_mapIdx,vW]
   congr 1
   refine List.ext_getElem (by simp) fun i' h5 h6=>?_
   rw[List.getElem_mapIdx,List.getElem_mapIdx,aGt (by omega)]
 ·rw[if_neg e,qR]
  refine List.ext_getElem (by simp) fun v' h3 h4=>?_
  simp only[List.getElem_mapIdx,vW]
  congr 1
  refine List.ext_getElem (by simp) fun i' h5 h6=>?_
  rw[List.getElem_mapIdx,List.getElem_mapIdx,aGt (by omega)]
end Go.Proofs.Pv
