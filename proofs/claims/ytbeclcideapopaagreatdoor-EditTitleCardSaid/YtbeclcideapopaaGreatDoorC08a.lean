/-
Layer 8's check of a score: numbers, values, pitches.
Conditions: none but those that each statement names.
-/
import Derived.Test.YtbeclcideapopaaGreatDoorF08
import Derived.Test.YtbeclcideapopaaGreatDoorD08
set_option linter.unusedVariables false
set_option linter.unusedSimpArgs false
set_option maxRecDepth 100000
set_option maxHeartbeats 16000000
namespace Go.Proofs.Pv
open Go Go.Proofs
theorem aQw (a:Int):PC Tryz.prog gl 157 [.int .i64 a] (fun v=>v= .bool false):=by
 (refine PC.introY 1 mix (fn:=Tryz.f157) Tryz.func157 rfl (names 157 _ Tryz.func157) fun F hF hro W=>?_;simp only[Tryz.ntmps157,Tryz.results157,aI,Nat.reduceAdd,Nat.reduceSub])
 simp -implicitDefEqProofs (disch:=first|assumption|omega) only[aA,aC,facts,if_pos,if_neg,Nat.reduceAdd,Nat.reduceEqDiff,Nat.reduceLT,Nat.reduceLeDiff,Nat.reduceSub,Nat.reduceMul,Int.reduceLT,Int.reduceLE,Int.reduceToNat,Int.reduceGE,Int.reduceGT,Int.reduceBEq,Int.reduceBNe,Int.reduceNeg,Nat.reducePow,Int.reduceAdd,Int.reduceSub,Int.reduceMul,bne_self_eq_false]
def aBl (a b:Int):Int:=if a<b then -1 else if b<a then 1 else 0
theorem aTq (a b:Int):PC Tryz.prog gl 141 [.int .i64 a,.int .i64 b] (fun v=>v= .int .i64 (aBl a b)):=by
 (refine PC.introY 1 mix (fn:=Tryz.f141) Tryz.func141 rfl (names 141 _ Tryz.func141) fun F hF hro W=>?_;simp only[Tryz.ntmps141,Tryz.results141,aI,Nat.reduceAdd,Nat.reduceSub])
 repeat' (first
  |simp -implicitDefEqProofs (disch:=first|assumption|omega) only[aA,aC,Nat.reduceAdd,Int.reduceNeg, *]
  |((with_reducible refine aF (fun _=>?_) (fun _=>?_))<;>try omega)
  |((with_reducible refine dI 157 ?_);refine PC.useY hF (aQw _) (rfl) fun v hv=>?_;subst hv))
 all_goals first|grind[aBl]|(simp_all [aBl];done)|(simp [aBl, *];omega)
theorem aOh (a b c:Int):PC Tryz.prog gl 132 [.int .i64 a,.int .i64 b,.int .i64 c] (fun v=>v= .bool (decide (b<=a) && decide (a<=c))):=by
 (refine PC.introY 1 mix (fn:=Tryz.f132) Tryz.func132 rfl (names 132 _ Tryz.func132) fun F hF hro W=>?_;simp only[Tryz.ntmps132,Tryz.results132,aI,Nat.reduceAdd,Nat.reduceSub])
 repeat' (first
  |simp -implicitDefEqProofs (disch:=first|assumption|omega) only[aA,aC,Nat.reduceAdd, *]
  |((with_reducible refine jI (fun _=>?_) (fun _=>?_))<;>try omega))
 all_goals first|grind[]|(simp_all [];done)|(simp [*];omega)
def Va.right (v:Va):Bool:=decide (0<=v.base/\v.base<=6/\0<=v.dots/\v.dots<=2) && (decide (v.num=0/\v.den=0)||decide (2<=v.num/\v.num<=15/\1<=v.den/\v.den<=15/\v.num≠v.den))
theorem Dq (v:Va):PC Tryz.prog gl 102 [v.av] (fun w=>w= .bool v.right):=by
 (refine PC.introY 1 mix (fn:=Tryz.f102) Tryz.func102 rfl (names 102 _ Tryz.func102) fun F hF hro W=>?_;simp only[Tryz.ntmps102,Tryz.results102,aI,Nat.reduceAdd,Nat.reduceSub])
 repeat' (first
  |simp -implicitDefEqProofs (disch:=first|assumption|omega) only[aA,aC,facts,if_pos,Nat.reduceAdd,Nat.reduceLeDiff,Va.av, *]
  |((with_reducible refine jO (fun _=>?_) (fun _=>?_))<;>try omega)
  |((with_reducible refine rF (fun _=>?_) (fun _=>?_))<;>try omega)
  |((with_reducible refine dI 132 ?_);refine PC.useY hF (aOh _ _ _) (rfl) fun v hv=>?_;subst hv))
 all_goals first|grind[Va.right]|(simp_all [Va.right];done)|(simp [Va.right, *];omega)
def half (s:Int):Int:=if s<3 then 2*s else 2*s - 1
def Pi.number (p:Pi):Int:=12*(p.octave+1)+half p.step+p.alter
def Pi.line (p:Pi):Int:=7*p.octave+p.step
def Pi.fits (p:Pi):Bool:=decide (0<=p.step/\p.step<7/\ -1<=p.octave/\p.octave<=9/\ -2<=p.alter/\p.alter<=2)
def Pi.right (p:Pi):Bool:=p.fits && decide (0<=p.number/\p.number<=127)
theorem aAb {s:Int} (h1:0<=s) (h2:s<7):s=0\/s=1\/s=2\/s=3\/s=4\/s=5\/s=6:=by omega
theorem xB (p:Pi) (h:p.fits=true):PC Tryz.prog gl 139 [p.av] (fun w=>w= .int .i64 p.number):=by
 simp only[Pi.fits,decide_eq_true_eq] at h
 obtain⟨h1,h2,h3,h4,h5,h6⟩:=h
 obtain⟨s,a,o⟩:=p
 simp only at h1 h2 h3 h4 h5 h6
 rcases aAb h1 h2 with rfl|rfl|rfl|rfl|rfl|rfl|rfl
 all_goals
  (refine PC.introY 1 mix (fn:=Tryz.f139) Tryz.func139 rfl (names 139 _ Tryz.func139) fun F hF hro W=>?_;simp only[Tryz.ntmps139,Tryz.results139,aI,Nat.reduceAdd,Nat.reduceSub])
  repeat' (first
  |simp -implicitDefEqProofs (disch:=first|assumption|omega) only[aA,aC,facts,if_pos,Nat.reduceAdd,Nat.reduceLeDiff,Int.reduceToNat,Pi.av,wrap_in, *]
  |((with_reducible refine fP ?_);refine gU _ rfl (by decide+kernel) ?_))
  simp [Pi.number,half]
theorem zN (p:Pi) (h:p.fits=true):PC Tryz.prog gl 142 [p.av] (fun w=>w= .int .i64 p.line):=by
 simp only[Pi.fits,decide_eq_true_eq] at h
 obtain⟨h1,h2,h3,h4,h5,h6⟩:=h
 (refine PC.introY 1 mix (fn:=Tryz.f142) Tryz.func142 rfl (names 142 _ Tryz.func142) fun F hF hro W=>?_;simp only[Tryz.ntmps142,Tryz.results142,aI,Nat.reduceAdd,Nat.reduceSub])
 repeat' (simp -implicitDefEqProofs (disch:=first|assumption|omega) only[aA,aC,facts,if_pos,Nat.reduceAdd,Nat.reduceLeDiff,Pi.av,wrap_in, *])
 all_goals first|grind[Pi.line]|(simp_all [Pi.line];done)|(simp [Pi.line, *];omega)
theorem mZ (p:Pi):PC Tryz.prog gl 107 [p.av] (fun w=>w= .bool p.right):=by
 (refine PC.introY 1 mix (fn:=Tryz.f107) Tryz.func107 rfl (names 107 _ Tryz.func107) fun F hF hro W=>?_;simp only[Tryz.ntmps107,Tryz.results107,aI,Nat.reduceAdd,Nat.reduceSub])
 repeat' (first
  |simp -implicitDefEqProofs (disch:=first|assumption|omega) only[aA,aC,facts,if_pos,Nat.reduceAdd,Nat.reduceLeDiff,Int.reduceNeg,Pi.av, *]
  |((with_reducible refine aF (fun _=>?_) (fun _=>?_))<;>try omega)
  |((with_reducible refine iD (fun _=>?_) (fun _=>?_))<;>try omega)
  |((with_reducible refine jI (fun _=>?_) (fun _=>?_))<;>try omega)
  |((with_reducible refine dI 139 ?_);refine PC.useY hF (xB p (by simp [Pi.fits];omega)) (rfl) fun v hv=>?_;subst hv))
 all_goals first|grind[Pi.right,Pi.fits]|(simp_all [Pi.right,Pi.fits];done)|(simp [Pi.right,Pi.fits, *];omega)
theorem Zm (l:List Int) (g:FuncId) (caps:List AV) (p:Int->Bool) (hl:l.length<=1000000) (hc:caps.map AV.plain=caps) (hu:AV.pureL caps=true) (hr: ∀f,caps.map (AV.ren f)=caps) (hp: ∀a∈l,PC Tryz.prog gl g (.int .i64 a::caps) (fun v=>v= .bool (p a))):
  PC Tryz.prog gl 138 [.sl 1 (l.map (AV.int .i64)) .none,.fn g [] caps] (fun v=>v= .int .i64 (nV p l)):=by
 (refine PC.introY 2 mix (fn:=Tryz.f138) Tryz.func138 rfl (names 138 _ Tryz.func138) fun F hF hro W=>?_;simp only[Tryz.ntmps138,Tryz.results138,aI,Nat.reduceAdd,Nat.reduceSub])
 repeat' (simp -implicitDefEqProofs (disch:=first|assumption|omega) only[aA,aC,facts,Nat.reduceAdd,Int.reduceNeg, *])
 refine kC [true,true,false,false,false,false,false,true,true,false,false,false,false,false,false,false,false,false,false] [] 100 l.length (fun i (_:Unit)=>⟨[.sl 1 (l.map (AV.int .i64)) .none,.fn g [] caps,.ud,.ud,.ud,.ud,.ud,.int .i64 (l.length:Nat),.int .i64 (i:Nat),.ud,.ud,.ud,.ud,.ud,.ud,.ud,.ud,.ud,.ud],[]⟩) (fun _ _=>⟨[],100⟩) (fun i _=> ∀j,j<i-> ∀h:j<l.length,p l[j]=false) () oD rfl (by simp only[Fr.norm,jW,qJ,List.map_cons,List.map_nil,AV.ren,AV.renL_eq,hr];rfl) ?_
 rintro i ⟨⟩ hi hQ
 repeat' (first
  |simp -implicitDefEqProofs (disch:=first|assumption|omega) only[aA,aC,facts,Nat.reduceAdd,Int.reduceNeg,wrap_in,List.getElem?_eq_getElem, *]
  |((with_reducible refine aF (fun _=>?_) (fun _=>?_))<;>try omega)
  |((with_reducible refine dK (fun _=>?_) (fun _=>?_))<;>try omega)
  |((with_reducible refine dI g ?_);refine PC.useY hF (hp l[i] (List.getElem_mem (by omega))) ((by simp only[List.map_cons,hc,aNc])) fun v hv=>?_;subst hv))
 ·rename_i h1 h2
  rw[zA (p:=p) (i:=i) (by omega) h2 fun j h h'=>hQ j h' h]
 ·rename_i h1 h2
  exact fH () (by omega) (lL hQ fun _=>h2) rfl (by simp only[Fr.norm,jW,qJ,List.map_cons,List.map_nil,AV.ren,AV.renL_eq,hr];rfl)
 ·rename_i h1
  rw[xF (p:=p) fun j h=>hQ j (by omega) h]
theorem Tc (l:List Int) (g:FuncId) (caps:List AV) (p:Int->Bool) (hl:l.length<=1000000) (hc:caps.map AV.plain=caps) (hu:AV.pureL caps=true) (hr: ∀f,caps.map (AV.ren f)=caps) (hp: ∀a∈l,PC Tryz.prog gl g (.int .i64 a::caps) (fun v=>v= .bool (p a))):
  PC Tryz.prog gl 105 [.sl 1 (l.map (AV.int .i64)) .none,.fn g [] caps] (fun v=>v= .bool (l.any p)):=by
 (refine PC.introY 1 mix (fn:=Tryz.f105) Tryz.func105 rfl (names 105 _ Tryz.func105) fun F hF hro W=>?_;simp only[Tryz.ntmps105,Tryz.results105,aI,Nat.reduceAdd,Nat.reduceSub])
 repeat' (first
  |simp -implicitDefEqProofs (disch:=first|assumption|omega) only[aA,aC,Nat.reduceAdd, *]
  |((with_reducible refine dI 138 ?_);refine PC.useY hF (Zm l g caps p hl hc hu hr hp) ((by simp only[List.map_cons,List.map_nil,Xd,plain_fn (a:=[]) rfl hu])) fun v hv=>?_;subst hv))
 rw[<-Ik]
theorem aBc (l:List Te) (g:FuncId) (caps:List AV) (p:Te->Bool) (hl:l.length<=1000000) (hc:caps.map AV.plain=caps) (hu:AV.pureL caps=true) (hr: ∀f,caps.map (AV.ren f)=caps) (hp: ∀a∈l,PC Tryz.prog gl g (a.av::caps) (fun v=>v= .bool (p a))):
  PC Tryz.prog gl 115 [.sl 4 (l.map Te.av) .none,.fn g [] caps] (fun v=>v= .int .i64 (nV p l)):=by
 (refine PC.introY 2 mix (fn:=Tryz.f115) Tryz.func115 rfl (names 115 _ Tryz.func115) fun F hF hro W=>?_;simp only[Tryz.ntmps115,Tryz.results115,aI,Nat.reduceAdd,Nat.reduceSub])
 repeat' (simp -implicitDefEqProofs (disch:=first|assumption|omega) only[aA,aC,facts,Nat.reduceAdd,Int.reduceNeg, *])
 refine kC [true,true,false,false,false,false,false,true,true,false,false,false,false,false,false,false,false,false,false] [] 100 l.length (fun i (_:Unit)=>⟨[.sl 4 (l.map Te.av) .none,.fn g [] caps,.ud,.ud,.ud,.ud,.ud,.int .i64 (l.length:Nat),.int .i64 (i:Nat),.ud,.ud,.ud,.ud,.ud,.ud,.ud,.ud,.ud,.ud],[]⟩) (fun _ _=>⟨[],100⟩) (fun i _=> ∀j,j<i-> ∀h:j<l.length,p l[j]=false) () oD rfl (by simp only[Fr.norm,jW,qJ,List.map_cons,List.map_nil,AV.ren,AV.renL_eq,hr];rfl) ?_
 rintro i ⟨⟩ hi hQ
 repeat' (first
  |simp -implicitDefEqProofs (disch:=first|assumption|omega) only[aA,aC,facts,if_pos,Nat.reduceAdd,Int.reduceNeg,wrap_in,List.getElem?_eq_getElem,Te.av, *]
  |((with_reducible refine aF (fun _=>?_) (fun _=>?_))<;>try omega)
  |((with_reducible refine dK (fun _=>?_) (fun _=>?_))<;>try omega)
  |((with_reducible refine dI g ?_);refine PC.useY hF (hp l[i] (List.getElem_mem (by omega))) ((by simp only[List.map_cons,hc];exact rfl)) fun v hv=>?_;subst hv))
 ·rename_i h1 h2
  rw[zA (p:=p) (i:=i) (by omega) h2 fun j h h'=>hQ j h' h]
 ·rename_i h1 h2
  exact fH () (by omega) (lL hQ fun _=>h2) rfl (by simp only[Fr.norm,jW,qJ,List.map_cons,List.map_nil,AV.ren,AV.renL_eq,hr];rfl)
 ·rename_i h1
  rw[xF (p:=p) fun j h=>hQ j (by omega) h]
theorem Vg (l:List Te) (g:FuncId) (caps:List AV) (p:Te->Bool) (hl:l.length<=1000000) (hc:caps.map AV.plain=caps) (hu:AV.pureL caps=true) (hr: ∀f,caps.map (AV.ren f)=caps) (hp: ∀a∈l,PC Tryz.prog gl g (a.av::caps) (fun v=>v= .bool (p a))):
  PC Tryz.prog gl 75 [.sl 4 (l.map Te.av) .none,.fn g [] caps] (fun v=>v= .bool (l.any p)):=by
 (refine PC.introY 1 mix (fn:=Tryz.f75) Tryz.func75 rfl (names 75 _ Tryz.func75) fun F hF hro W=>?_;simp only[Tryz.ntmps75,Tryz.results75,aI,Nat.reduceAdd,Nat.reduceSub])
 repeat' (first
  |simp -implicitDefEqProofs (disch:=first|assumption|omega) only[aA,aC,Nat.reduceAdd, *]
  |((with_reducible refine dI 115 ?_);refine PC.useY hF (aBc l g caps p hl hc hu hr hp) ((by simp only[List.map_cons,List.map_nil,Xd,plain_fn (a:=[]) rfl hu])) fun v hv=>?_;subst hv))
 rw[<-Ik]
theorem aBd (l:List Dy) (g:FuncId) (caps:List AV) (p:Dy->Bool) (hl:l.length<=1000000) (hc:caps.map AV.plain=caps) (hu:AV.pureL caps=true) (hr: ∀f,caps.map (AV.ren f)=caps) (hp: ∀a∈l,PC Tryz.prog gl g (a.av::caps) (fun v=>v= .bool (p a))):
  PC Tryz.prog gl 149 [.sl 4 (l.map Dy.av) .none,.fn g [] caps] (fun v=>v= .int .i64 (nV p l)):=by
 (refine PC.introY 2 mix (fn:=Tryz.f149) Tryz.func149 rfl (names 149 _ Tryz.func149) fun F hF hro W=>?_;simp only[Tryz.ntmps149,Tryz.results149,aI,Nat.reduceAdd,Nat.reduceSub])
 repeat' (simp -implicitDefEqProofs (disch:=first|assumption|omega) only[aA,aC,facts,Nat.reduceAdd,Int.reduceNeg, *])
 refine kC [true,true,false,false,false,false,false,true,true,false,false,false,false,false,false,false,false,false,false] [] 100 l.length (fun i (_:Unit)=>⟨[.sl 4 (l.map Dy.av) .none,.fn g [] caps,.ud,.ud,.ud,.ud,.ud,.int .i64 (l.length:Nat),.int .i64 (i:Nat),.ud,.ud,.ud,.ud,.ud,.ud,.ud,.ud,.ud,.ud],[]⟩) (fun _ _=>⟨[],100⟩) (fun i _=> ∀j,j<i-> ∀h:j<l.length,p l[j]=false) () oD rfl (by simp only[Fr.norm,jW,qJ,List.map_cons,List.map_nil,AV.ren,AV.renL_eq,hr];rfl) ?_
 rintro i ⟨⟩ hi hQ
 repeat' (first
  |simp -implicitDefEqProofs (disch:=first|assumption|omega) only[aA,aC,facts,if_pos,Nat.reduceAdd,Int.reduceNeg,wrap_in,List.getElem?_eq_getElem,Dy.av, *]
  |((with_reducible refine aF (fun _=>?_) (fun _=>?_))<;>try omega)
  |((with_reducible refine dK (fun _=>?_) (fun _=>?_))<;>try omega)
  |((with_reducible refine dI g ?_);refine PC.useY hF (hp l[i] (List.getElem_mem (by omega))) ((by simp only[List.map_cons,hc];exact rfl)) fun v hv=>?_;subst hv))
 ·rename_i h1 h2
  rw[zA (p:=p) (i:=i) (by omega) h2 fun j h h'=>hQ j h' h]
 ·rename_i h1 h2
  exact fH () (by omega) (lL hQ fun _=>h2) rfl (by simp only[Fr.norm,jW,qJ,List.map_cons,List.map_nil,AV.ren,AV.renL_eq,hr];rfl)
 ·rename_i h1
  rw[xF (p:=p) fun j h=>hQ j (by omega) h]
theorem Vh (l:List Dy) (g:FuncId) (caps:List AV) (p:Dy->Bool) (hl:l.length<=1000000) (hc:caps.map AV.plain=caps) (hu:AV.pureL caps=true) (hr: ∀f,caps.map (AV.ren f)=caps) (hp: ∀a∈l,PC Tryz.prog gl g (a.av::caps) (fun v=>v= .bool (p a))):
  PC Tryz.prog gl 121 [.sl 4 (l.map Dy.av) .none,.fn g [] caps] (fun v=>v= .bool (l.any p)):=by
 (refine PC.introY 1 mix (fn:=Tryz.f121) Tryz.func121 rfl (names 121 _ Tryz.func121) fun F hF hro W=>?_;simp only[Tryz.ntmps121,Tryz.results121,aI,Nat.reduceAdd,Nat.reduceSub])
 repeat' (first
  |simp -implicitDefEqProofs (disch:=first|assumption|omega) only[aA,aC,Nat.reduceAdd, *]
  |((with_reducible refine dI 149 ?_);refine PC.useY hF (aBd l g caps p hl hc hu hr hp) ((by simp only[List.map_cons,List.map_nil,Xd,plain_fn (a:=[]) rfl hu])) fun v hv=>?_;subst hv))
 rw[<-Ik]
theorem aBe (l:List Ev) (g:FuncId) (caps:List AV) (p:Ev->Bool) (hl:l.length<=1000000) (hc:caps.map AV.plain=caps) (hu:AV.pureL caps=true) (hr: ∀f,caps.map (AV.ren f)=caps) (hp: ∀a∈l,PC Tryz.prog gl g (a.av::caps) (fun v=>v= .bool (p a))):
  PC Tryz.prog gl 145 [.sl 9 (l.map Ev.av) .none,.fn g [] caps] (fun v=>v= .int .i64 (nV p l)):=by
 (refine PC.introY 2 mix (fn:=Tryz.f145) Tryz.func145 rfl (names 145 _ Tryz.func145) fun F hF hro W=>?_;simp only[Tryz.ntmps145,Tryz.results145,aI,Nat.reduceAdd,Nat.reduceSub])
 repeat' (simp -implicitDefEqProofs (disch:=first|assumption|omega) only[aA,aC,facts,Nat.reduceAdd,Int.reduceNeg, *])
 refine kC [true,true,false,false,false,false,false,true,true,false,false,false,false,false,false,false,false,false,false] [] 100 l.length (fun i (_:Unit)=>⟨[.sl 9 (l.map Ev.av) .none,.fn g [] caps,.ud,.ud,.ud,.ud,.ud,.int .i64 (l.length:Nat),.int .i64 (i:Nat),.ud,.ud,.ud,.ud,.ud,.ud,.ud,.ud,.ud,.ud],[]⟩) (fun _ _=>⟨[],100⟩) (fun i _=> ∀j,j<i-> ∀h:j<l.length,p l[j]=false) () oD rfl (by simp only[Fr.norm,jW,qJ,List.map_cons,List.map_nil,AV.ren,AV.renL_eq,hr];rfl) ?_
 rintro i ⟨⟩ hi hQ
 repeat' (first
  |simp -implicitDefEqProofs (disch:=first|assumption|omega) only[aA,aC,facts,if_pos,Nat.reduceAdd,Int.reduceNeg,wrap_in,List.getElem?_eq_getElem,Ev.av, *]
  |((with_reducible refine aF (fun _=>?_) (fun _=>?_))<;>try omega)
  |((with_reducible refine dK (fun _=>?_) (fun _=>?_))<;>try omega)
  |((with_reducible refine dI g ?_);refine PC.useY hF (hp l[i] (List.getElem_mem (by omega))) ((by simp only[List.map_cons,hc];exact rfl)) fun v hv=>?_;subst hv))
 ·rename_i h1 h2
  rw[zA (p:=p) (i:=i) (by omega) h2 fun j h h'=>hQ j h' h]
 ·rename_i h1 h2
  exact fH () (by omega) (lL hQ fun _=>h2) rfl (by simp only[Fr.norm,jW,qJ,List.map_cons,List.map_nil,AV.ren,AV.renL_eq,hr];rfl)
 ·rename_i h1
  rw[xF (p:=p) fun j h=>hQ j (by omega) h]
def orI (x y:Int):Int:=if x=0 then y else x
theorem or_ok (x y:Int):PC Tryz.prog gl 140 [.sl 1 [.int .i64 x,.int .i64 y] .none] (fun v=>v= .int .i64 (orI x y)):=by
 (refine PC.introY 2 mix (fn:=Tryz.f140) Tryz.func140 rfl (names 140 _ Tryz.func140) fun F hF hro W=>?_;simp only[Tryz.ntmps140,Tryz.results140,aI,Nat.reduceAdd,Nat.reduceSub])
 repeat' (simp -implicitDefEqProofs (disch:=first|assumption|omega) only[aA,aC,facts,Nat.reduceAdd, *])
 refine aNb 3 ?_
 repeat' (first
  |simp -implicitDefEqProofs (disch:=first|assumption|omega) only[aA,aC,facts,Nat.reduceAdd,Int.reduceLT,Int.reduceLE,Int.reduceToNat,Int.reduceAdd,wrap_in, *]
  |((with_reducible refine dK (fun _=>?_) (fun _=>?_))<;>try omega))
 all_goals first|grind[orI]|(simp_all [orI];done)|(simp [orI, *];omega)
def Pi.cmp (a b:Pi):Int:=if(a.right && b.right)=true then orI (aBl a.number b.number) (aBl a.line b.line) else 0
theorem xP {p:Pi} (h:p.right=true):p.fits=true:=by
 unfold Pi.right at h
 simp at h
 exact h.1
theorem aAj (a b:Pi):PC Tryz.prog gl 110 [a.av,b.av] (fun v=>v= .int .i64 (a.cmp b)):=by
 (refine PC.introY 1 mix (fn:=Tryz.f110) Tryz.func110 rfl (names 110 _ Tryz.func110) fun F hF hro W=>?_;simp only[Tryz.ntmps110,Tryz.results110,aI,Nat.reduceAdd,Nat.reduceSub])
 repeat' (first
  |simp -implicitDefEqProofs (disch:=first|assumption|omega) only[aA,aC,facts,if_pos,Nat.reduceAdd,Nat.reduceLT,Nat.reduceLeDiff,Pi.av, *]
  |((with_reducible refine jK 139 ?_);refine dL (xB a (xP (by simp_all))) (rfl) ?_)
  |((with_reducible refine jK 139 ?_);refine dL (xB b (xP (by simp_all))) (rfl) ?_)
  |((with_reducible refine jK 142 ?_);refine dL (zN a (xP (by simp_all))) (rfl) ?_)
  |((with_reducible refine jK 142 ?_);refine dL (zN b (xP (by simp_all))) (rfl) ?_)
  |((with_reducible refine jK 141 ?_);refine dL (aTq _ _) (rfl) ?_)
  |((with_reducible refine jK 140 ?_);refine dL (or_ok _ _) (rfl) ?_)
  |((with_reducible refine dS (fun _=>?_) (fun _=>?_))<;>try omega)
  |((with_reducible refine jO (fun _=>?_) (fun _=>?_))<;>try omega)
  |((with_reducible refine fP ?_);refine gU _ rfl (by decide+kernel) ?_)
  |((with_reducible refine dI 107 ?_);refine PC.useY hF (mZ a) (rfl) fun v hv=>?_;subst hv)
  |((with_reducible refine dI 107 ?_);refine PC.useY hF (mZ b) (rfl) fun v hv=>?_;subst hv))
 ·rename_i h;simp at h;simp [Pi.cmp,h]
 ·rename_i h1 h2;simp at h1;simp [Pi.cmp,h1,h2]
 ·rename_i h1 h2;simp [Pi.cmp,h2]
theorem aOq (m:Int):PC Tryz.prog gl 106 [.int .i64 m] (fun v=>v= .bool (m !=4)):=by
 (refine PC.introY 1 mix (fn:=Tryz.f106) Tryz.func106 rfl (names 106 _ Tryz.func106) fun F hF hro W=>?_;simp only[Tryz.ntmps106,Tryz.results106,aI,Nat.reduceAdd,Nat.reduceSub])
 repeat' (simp -implicitDefEqProofs (disch:=first|assumption|omega) only[aA,aC,Nat.reduceAdd, *])
theorem aOr (a b:Pi):PC Tryz.prog gl 109 [a.av,b.av] (fun v=>v= .bool (decide (a.cmp b>0))):=by
 (refine PC.introY 1 mix (fn:=Tryz.f109) Tryz.func109 rfl (names 109 _ Tryz.func109) fun F hF hro W=>?_;simp only[Tryz.ntmps109,Tryz.results109,aI,Nat.reduceAdd,Nat.reduceSub])
 repeat' (first
  |simp -implicitDefEqProofs (disch:=first|assumption|omega) only[aA,aC,facts,if_pos,Nat.reduceAdd,Pi.av, *]
  |((with_reducible refine dI 110 ?_);refine PC.useY hF (aAj a b) (rfl) fun v hv=>?_;subst hv))
 all_goals first|grind[]|(simp_all [];done)|(simp [*];omega)
theorem aLa (a b:Int):PC Tryz.prog gl 137 [.int .i64 a,.int .i64 b] (fun v=>v= .bool (decide (a>b))):=by
 (refine PC.introY 1 mix (fn:=Tryz.f137) Tryz.func137 rfl (names 137 _ Tryz.func137) fun F hF hro W=>?_;simp only[Tryz.ntmps137,Tryz.results137,aI,Nat.reduceAdd,Nat.reduceSub])
 repeat' (simp -implicitDefEqProofs (disch:=first|assumption|omega) only[aA,aC,Nat.reduceAdd, *])
 all_goals first|grind[]|(simp_all [];done)|(simp [*];omega)
theorem Ep {i:Nat}:((i:Int) - 1).toNat=i - 1:=by omega
def Cc {α:Type} (above:α->α->Bool) (l:List α):Bool:=Cj (l.length - 1) fun i=>match l[i+1]?,l[i]? with
 |some a,some b=>above a b
 |_,_=>true
theorem Uj {α:Type} {above:α->α->Bool} {l:List α} {i:Nat} (h0:0<i) (hi:i<l.length) (h:above l[i] l[i - 1]=false):Cc above l=false:=by
 unfold Cc
 refine pG (i:=i - 1) (by omega) ?_
 have e:i - 1+1=i:=by omega
 simp only[e,List.getElem?_eq_getElem hi,List.getElem?_eq_getElem (show i - 1<l.length by omega)]
 exact h
theorem Vz {α:Type} {above:α->α->Bool} {l:List α} (h: ∀i (hi:i<l.length),0<i->above l[i] l[i - 1]=true):Cc above l=true:=by
 unfold Cc
 refine Bd fun i hi=>?_
 have h1:i+1<l.length:=by omega
 simp only[List.getElem?_eq_getElem h1,List.getElem?_eq_getElem (show i<l.length by omega)]
 exact h (i+1) h1 (by omega)
theorem aHj (l:List Int) (g:FuncId) (above:Int->Int->Bool) (hl:l.length<=1000000) (hp: ∀a b,PC Tryz.prog gl g [.int .i64 a,.int .i64 b] (fun v=>v= .bool (above a b))):
  PC Tryz.prog gl 136 [.sl 1 (l.map (AV.int .i64)) .none,.fn g [] []] (fun v=>v= .bool (Cc above l)):=by
 (refine PC.introY 2 mix (fn:=Tryz.f136) Tryz.func136 rfl (names 136 _ Tryz.func136) fun F hF hro W=>?_;simp only[Tryz.ntmps136,Tryz.results136,aI,Nat.reduceAdd,Nat.reduceSub])
 repeat' (simp -implicitDefEqProofs (disch:=first|assumption|omega) only[aA,aC,facts,Nat.reduceAdd, *])
 refine kC (fD 28 [0,1,7,8]) [] 100 l.length (fun i (_:Unit)=>⟨[.sl 1 (l.map (AV.int .i64)) .none,.fn g [] [],.ud,.ud,.ud,.ud,.ud,.int .i64 (l.length:Nat),.int .i64 (i:Nat),.ud,.ud,.ud,.ud,.ud,.ud,.ud,.ud,.ud,.ud,.ud,.ud,.ud,.ud,.ud,.ud,.ud,.ud,.ud],[]⟩) (fun _ _=>⟨[],100⟩) (fun i _=> ∀j,j<i-> ∀h:j<l.length,0<j->above l[j] l[j - 1]=true) () oD rfl rfl ?_
 rintro i ⟨⟩ hi hQ
 repeat' (first
  |simp -implicitDefEqProofs (disch:=first|assumption|omega) only[aA,aC,facts,if_pos,Nat.reduceAdd,wrap_in,List.getElem?_eq_getElem,Ep, *]
  |((with_reducible refine jK g ?_);refine dL (hp _ _) (rfl) ?_)
  |((with_reducible refine aF (fun _=>?_) (fun _=>?_))<;>try omega)
  |((with_reducible refine dS (fun _=>?_) (fun _=>?_))<;>try omega)
  |((with_reducible refine uH (fun _=>?_) (fun _=>?_))<;>try omega)
  |((with_reducible refine fP ?_);refine gU _ rfl (by decide+kernel) ?_))
 ·rename_i h1 h2 h3
  exact fH () (by omega) (lL hQ fun _ _=>h3) rfl rfl
 ·rename_i h1 h2 h3
  rw[Uj (i:=i) (by omega) (by omega) h3]
 ·rename_i h1 h2
  exact fH () (by omega) (lL hQ fun _ h0=>by omega) rfl rfl
 ·rename_i h1
  rw[Vz fun j hj h0=>hQ j (by omega) hj h0]
theorem aLb (l:List Pi) (g:FuncId) (above:Pi->Pi->Bool) (hl:l.length<=1000000) (hp: ∀a b,PC Tryz.prog gl g [a.av,b.av] (fun v=>v= .bool (above a b))):
  PC Tryz.prog gl 108 [.sl 3 (l.map Pi.av) .none,.fn g [] []] (fun v=>v= .bool (Cc above l)):=by
 (refine PC.introY 2 mix (fn:=Tryz.f108) Tryz.func108 rfl (names 108 _ Tryz.func108) fun F hF hro W=>?_;simp only[Tryz.ntmps108,Tryz.results108,aI,Nat.reduceAdd,Nat.reduceSub])
 repeat' (simp -implicitDefEqProofs (disch:=first|assumption|omega) only[aA,aC,facts,Nat.reduceAdd, *])
 refine kC (fD 28 [0,1,7,8]) [] 100 l.length (fun i (_:Unit)=>⟨[.sl 3 (l.map Pi.av) .none,.fn g [] [],.ud,.ud,.ud,.ud,.ud,.int .i64 (l.length:Nat),.int .i64 (i:Nat),.ud,.ud,.ud,.ud,.ud,.ud,.ud,.ud,.ud,.ud,.ud,.ud,.ud,.ud,.ud,.ud,.ud,.ud,.ud],[]⟩) (fun _ _=>⟨[],100⟩) (fun i _=> ∀j,j<i-> ∀h:j<l.length,0<j->above l[j] l[j - 1]=true) () oD rfl rfl ?_
 rintro i ⟨⟩ hi hQ
 repeat' (first
  |simp -implicitDefEqProofs (disch:=first|assumption|omega) only[aA,aC,facts,if_pos,Nat.reduceAdd,wrap_in,List.getElem?_eq_getElem,Ep,Pi.av, *]
  |((with_reducible refine jK g ?_);refine dL (hp _ _) (rfl) ?_)
  |((with_reducible refine aF (fun _=>?_) (fun _=>?_))<;>try omega)
  |((with_reducible refine dS (fun _=>?_) (fun _=>?_))<;>try omega)
  |((with_reducible refine uH (fun _=>?_) (fun _=>?_))<;>try omega)
  |((with_reducible refine fP ?_);refine gU _ rfl (by decide+kernel) ?_))
 ·rename_i h1 h2 h3
  exact fH () (by omega) (lL hQ fun _ _=>h3) rfl rfl
 ·rename_i h1 h2 h3
  rw[Uj (i:=i) (by omega) (by omega) h3]
 ·rename_i h1 h2
  exact fH () (by omega) (lL hQ fun _ h0=>by omega) rfl rfl
 ·rename_i h1
  rw[Vz fun j hj h0=>hQ j (by omega) hj h0]
def Uk (l:List Int):Bool:=(l.all fun m=>decide (1<=m/\m<=4)) && Cc (fun a b=>decide (a>b)) l
theorem aOs (l:List Int) (hl:l.length<=1000000):PC Tryz.prog gl 104 [.sl 1 (l.map (AV.int .i64)) .none] (fun v=>v= .bool (Uk l)):=by
 (refine PC.introY 2 mix (fn:=Tryz.f104) Tryz.func104 rfl (names 104 _ Tryz.func104) fun F hF hro W=>?_;simp only[Tryz.ntmps104,Tryz.results104,aI,Nat.reduceAdd,Nat.reduceSub])
 repeat' (simp -implicitDefEqProofs (disch:=first|assumption|omega) only[aA,aC,facts,Nat.reduceAdd, *])
 refine kC (fD 20 [0,5,6,7]) [] 100 l.length (fun i (_:Unit)=>⟨[.sl 1 (l.map (AV.int .i64)) .none,.ud,.ud,.ud,.ud,.sl 1 (l.map (AV.int .i64)) .none,.int .i64 (l.length:Nat),.int .i64 (i:Nat),.ud,.ud,.ud,.ud,.ud,.ud,.ud,.ud,.ud,.ud,.ud,.ud],[]⟩) (fun _ _=>⟨[],100⟩) (fun i _=> ∀j,j<i-> ∀h:j<l.length,decide (1<=l[j]/\l[j]<=4)=true) () oD rfl rfl ?_
 rintro i ⟨⟩ hi hQ
 repeat' (first
  |simp -implicitDefEqProofs (disch:=first|assumption|omega) only[aA,aC,facts,Nat.reduceAdd,wrap_in,List.getElem?_eq_getElem, *]
  |((with_reducible refine aF (fun _=>?_) (fun _=>?_))<;>try omega)
  |((with_reducible refine iD (fun _=>?_) (fun _=>?_))<;>try omega)
  |((with_reducible refine dI 136 ?_);refine PC.useY hF (aHj l _ _ hl aLa) (rfl) fun v hv=>?_;subst hv))
 ·rename_i h1 h2
  have:(l.all fun m=>decide (1<=m/\m<=4))=false:=zB (i:=i) (by omega) (by simp;omega)
  rw[Uk,this,Bool.false_and]
 ·rename_i h1 h2 h3
  have:(l.all fun m=>decide (1<=m/\m<=4))=false:=zB (i:=i) (by omega) (by simp;omega)
  rw[Uk,this,Bool.false_and]
 ·rename_i h1 h2 h3
  exact fH () (by omega) (lL hQ fun _=>decide_eq_true (by omega)) rfl rfl
 ·rename_i h1
  have:(l.all fun m=>decide (1<=m/\m<=4))=true:=Vr fun j hj=>hQ j (by omega) hj
  rw[Uk,this,Bool.true_and]
end Go.Proofs.Pv
