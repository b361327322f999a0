/-
Layer 8's check of a score: numbers, values, pitches.
Conditions: none but those that each statement names.
-/
import Derived.Test.YtlcnbhiklpfpjaaGreatDoorF08
import Derived.Test.YtlcnbhiklpfpjaaGreatDoorD08
set_option linter.unusedVariables false
set_option linter.unusedSimpArgs false
set_option maxRecDepth 100000
set_option maxHeartbeats 16000000
namespace Go.Proofs.Pv
open Go Go.Proofs
theorem aRt (a:Int):PC Tryz.prog gl 158 [.int .i64 a] (fun v=>v= .bool false):=by
 (refine PC.introY 1 mix (fn:=Tryz.f158) Tryz.func158 rfl (names 158 _ Tryz.func158) fun F hF hro W=>?_;simp only[Tryz.ntmps158,Tryz.results158,aJ,Nat.reduceAdd,Nat.reduceSub])
 simp -implicitDefEqProofs (disch:=first|assumption|omega) only[aA,aC,facts,if_pos,if_neg,Nat.reduceAdd,Nat.reduceEqDiff,Nat.reduceLT,Nat.reduceLeDiff,Nat.reduceSub,Nat.reduceMul,Int.reduceLT,Int.reduceLE,Int.reduceToNat,Int.reduceGE,Int.reduceGT,Int.reduceBEq,Int.reduceBNe,Int.reduceNeg,Nat.reducePow,Int.reduceAdd,Int.reduceSub,Int.reduceMul,bne_self_eq_false]
def aCa (a b:Int):Int:=if a<b then -1 else if b<a then 1 else 0
theorem aUn (a b:Int):PC Tryz.prog gl 142 [.int .i64 a,.int .i64 b] (fun v=>v= .int .i64 (aCa a b)):=by
 (refine PC.introY 1 mix (fn:=Tryz.f142) Tryz.func142 rfl (names 142 _ Tryz.func142) fun F hF hro W=>?_;simp only[Tryz.ntmps142,Tryz.results142,aJ,Nat.reduceAdd,Nat.reduceSub])
 repeat' (first
  |simp -implicitDefEqProofs (disch:=first|assumption|omega) only[aA,aC,Nat.reduceAdd,Int.reduceNeg, *]
  |((with_reducible refine aF (fun _=>?_) (fun _=>?_))<;>try omega)
  |((with_reducible refine dI 158 ?_);refine PC.useY hF (aRt _) (rfl) fun v hv=>?_;subst hv))
 all_goals first|grind[aCa]|(simp_all [aCa];done)|(simp [aCa, *];omega)
theorem aPg (a b c:Int):PC Tryz.prog gl 133 [.int .i64 a,.int .i64 b,.int .i64 c] (fun v=>v= .bool (decide (b<=a) && decide (a<=c))):=by
 (refine PC.introY 1 mix (fn:=Tryz.f133) Tryz.func133 rfl (names 133 _ Tryz.func133) fun F hF hro W=>?_;simp only[Tryz.ntmps133,Tryz.results133,aJ,Nat.reduceAdd,Nat.reduceSub])
 repeat' (first
  |simp -implicitDefEqProofs (disch:=first|assumption|omega) only[aA,aC,Nat.reduceAdd, *]
  |((with_reducible refine jE (fun _=>?_) (fun _=>?_))<;>try omega))
 all_goals first|grind[]|(simp_all [];done)|(simp [*];omega)
def Va.right (v:Va):Bool:=decide (0<=v.base/\v.base<=6/\0<=v.dots/\v.dots<=2) && (decide (v.num=0/\v.den=0)||decide (2<=v.num/\v.num<=15/\1<=v.den/\v.den<=15/\v.num≠v.den))
theorem En (v:Va):PC Tryz.prog gl 103 [v.av] (fun w=>w= .bool v.right):=by
 (refine PC.introY 1 mix (fn:=Tryz.f103) Tryz.func103 rfl (names 103 _ Tryz.func103) fun F hF hro W=>?_;simp only[Tryz.ntmps103,Tryz.results103,aJ,Nat.reduceAdd,Nat.reduceSub])
 repeat' (first
  |simp -implicitDefEqProofs (disch:=first|assumption|omega) only[aA,aC,facts,if_pos,Nat.reduceAdd,Nat.reduceLeDiff,Va.av, *]
  |((with_reducible refine jW (fun _=>?_) (fun _=>?_))<;>try omega)
  |((with_reducible refine sD (fun _=>?_) (fun _=>?_))<;>try omega)
  |((with_reducible refine dI 133 ?_);refine PC.useY hF (aPg _ _ _) (rfl) fun v hv=>?_;subst hv))
 all_goals first|grind[Va.right]|(simp_all [Va.right];done)|(simp [Va.right, *];omega)
def half (s:Int):Int:=if s<3 then 2*s else 2*s - 1
def Pi.number (p:Pi):Int:=12*(p.octave+1)+half p.step+p.alter
def Pi.line (p:Pi):Int:=7*p.octave+p.step
def Pi.fits (p:Pi):Bool:=decide (0<=p.step/\p.step<7/\ -1<=p.octave/\p.octave<=9/\ -2<=p.alter/\p.alter<=2)
def Pi.right (p:Pi):Bool:=p.fits && decide (0<=p.number/\p.number<=127)
theorem aA0 {s:Int} (h1:0<=s) (h2:s<7):s=0\/s=1\/s=2\/s=3\/s=4\/s=5\/s=6:=by omega
theorem xY (p:Pi) (h:p.fits=true):PC Tryz.prog gl 140 [p.av] (fun w=>w= .int .i64 p.number):=by
 simp only[Pi.fits,decide_eq_true_eq] at h
 obtain⟨h1,h2,h3,h4,h5,h6⟩:=h
 obtain⟨s,a,o⟩:=p
 simp only at h1 h2 h3 h4 h5 h6
 rcases aA0 h1 h2 with rfl|rfl|rfl|rfl|rfl|rfl|rfl
 all_goals
  (refine PC.introY 1 mix (fn:=Tryz.f140) Tryz.func140 rfl (names 140 _ Tryz.func140) fun F hF hro W=>?_;simp only[Tryz.ntmps140,Tryz.results140,aJ,Nat.reduceAdd,Nat.reduceSub])
  repeat' (first
  |simp -implicitDefEqProofs (disch:=first|assumption|omega) only[aA,aC,facts,if_pos,Nat.reduceAdd,Nat.reduceLeDiff,Int.reduceToNat,Pi.av,wrap_in, *]
  |((with_reducible refine fQ ?_);refine gZ _ rfl (by decide+kernel) ?_))
  simp [Pi.number,half]
theorem Ai (p:Pi) (h:p.fits=true):PC Tryz.prog gl 143 [p.av] (fun w=>w= .int .i64 p.line):=by
 simp only[Pi.fits,decide_eq_true_eq] at h
 obtain⟨h1,h2,h3,h4,h5,h6⟩:=h
 (refine PC.introY 1 mix (fn:=Tryz.f143) Tryz.func143 rfl (names 143 _ Tryz.func143) fun F hF hro W=>?_;simp only[Tryz.ntmps143,Tryz.results143,aJ,Nat.reduceAdd,Nat.reduceSub])
 repeat' (simp -implicitDefEqProofs (disch:=first|assumption|omega) only[aA,aC,facts,if_pos,Nat.reduceAdd,Nat.reduceLeDiff,Pi.av,wrap_in, *])
 all_goals first|grind[Pi.line]|(simp_all [Pi.line];done)|(simp [Pi.line, *];omega)
theorem nO (p:Pi):PC Tryz.prog gl 108 [p.av] (fun w=>w= .bool p.right):=by
 (refine PC.introY 1 mix (fn:=Tryz.f108) Tryz.func108 rfl (names 108 _ Tryz.func108) fun F hF hro W=>?_;simp only[Tryz.ntmps108,Tryz.results108,aJ,Nat.reduceAdd,Nat.reduceSub])
 repeat' (first
  |simp -implicitDefEqProofs (disch:=first|assumption|omega) only[aA,aC,facts,if_pos,Nat.reduceAdd,Nat.reduceLeDiff,Int.reduceNeg,Pi.av, *]
  |((with_reducible refine aF (fun _=>?_) (fun _=>?_))<;>try omega)
  |((with_reducible refine iH (fun _=>?_) (fun _=>?_))<;>try omega)
  |((with_reducible refine jE (fun _=>?_) (fun _=>?_))<;>try omega)
  |((with_reducible refine dI 140 ?_);refine PC.useY hF (xY p (by simp [Pi.fits];omega)) (rfl) fun v hv=>?_;subst hv))
 all_goals first|grind[Pi.right,Pi.fits]|(simp_all [Pi.right,Pi.fits];done)|(simp [Pi.right,Pi.fits, *];omega)
theorem aAh (l:List Int) (g:FuncId) (caps:List AV) (p:Int->Bool) (hl:l.length<=1000000) (hc:caps.map AV.plain=caps) (hu:AV.pureL caps=true) (hr: ∀f,caps.map (AV.ren f)=caps) (hp: ∀a∈l,PC Tryz.prog gl g (.int .i64 a::caps) (fun v=>v= .bool (p a))):
  PC Tryz.prog gl 139 [.sl 1 (l.map (AV.int .i64)) .none,.fn g [] caps] (fun v=>v= .int .i64 (oJ p l)):=by
 (refine PC.introY 2 mix (fn:=Tryz.f139) Tryz.func139 rfl (names 139 _ Tryz.func139) fun F hF hro W=>?_;simp only[Tryz.ntmps139,Tryz.results139,aJ,Nat.reduceAdd,Nat.reduceSub])
 repeat' (simp -implicitDefEqProofs (disch:=first|assumption|omega) only[aA,aC,facts,Nat.reduceAdd,Int.reduceNeg, *])
 refine kL [true,true,false,false,false,false,false,true,true,false,false,false,false,false,false,false,false,false,false] [] 100 l.length (fun i (_:Unit)=>⟨[.sl 1 (l.map (AV.int .i64)) .none,.fn g [] caps,.ud,.ud,.ud,.ud,.ud,.int .i64 (l.length:Nat),.int .i64 (i:Nat),.ud,.ud,.ud,.ud,.ud,.ud,.ud,.ud,.ud,.ud],[]⟩) (fun _ _=>⟨[],100⟩) (fun i _=> ∀j,j<i-> ∀h:j<l.length,p l[j]=false) () oO rfl (by simp only[Fr.norm,kF,qU,List.map_cons,List.map_nil,AV.ren,AV.renL_eq,hr];rfl) ?_
 rintro i ⟨⟩ hi hQ
 repeat' (first
  |simp -implicitDefEqProofs (disch:=first|assumption|omega) only[aA,aC,facts,Nat.reduceAdd,Int.reduceNeg,wrap_in,List.getElem?_eq_getElem, *]
  |((with_reducible refine aF (fun _=>?_) (fun _=>?_))<;>try omega)
  |((with_reducible refine dL (fun _=>?_) (fun _=>?_))<;>try omega)
  |((with_reducible refine dI g ?_);refine PC.useY hF (hp l[i] (List.getElem_mem (by omega))) ((by simp only[List.map_cons,hc,aN1])) fun v hv=>?_;subst hv))
 ·rename_i h1 h2
  rw[zW (p:=p) (i:=i) (by omega) h2 fun j h h'=>hQ j h' h]
 ·rename_i h1 h2
  exact fJ () (by omega) (lX hQ fun _=>h2) rfl (by simp only[Fr.norm,kF,qU,List.map_cons,List.map_nil,AV.ren,AV.renL_eq,hr];rfl)
 ·rename_i h1
  rw[yB (p:=p) fun j h=>hQ j (by omega) h]
theorem Ug (l:List Int) (g:FuncId) (caps:List AV) (p:Int->Bool) (hl:l.length<=1000000) (hc:caps.map AV.plain=caps) (hu:AV.pureL caps=true) (hr: ∀f,caps.map (AV.ren f)=caps) (hp: ∀a∈l,PC Tryz.prog gl g (.int .i64 a::caps) (fun v=>v= .bool (p a))):
  PC Tryz.prog gl 106 [.sl 1 (l.map (AV.int .i64)) .none,.fn g [] caps] (fun v=>v= .bool (l.any p)):=by
 (refine PC.introY 1 mix (fn:=Tryz.f106) Tryz.func106 rfl (names 106 _ Tryz.func106) fun F hF hro W=>?_;simp only[Tryz.ntmps106,Tryz.results106,aJ,Nat.reduceAdd,Nat.reduceSub])
 repeat' (first
  |simp -implicitDefEqProofs (disch:=first|assumption|omega) only[aA,aC,Nat.reduceAdd, *]
  |((with_reducible refine dI 139 ?_);refine PC.useY hF (aAh l g caps p hl hc hu hr hp) ((by simp only[List.map_cons,List.map_nil,Yc,plain_fn (a:=[]) rfl hu])) fun v hv=>?_;subst hv))
 rw[<-Jf]
theorem aB1 (l:List Te) (g:FuncId) (caps:List AV) (p:Te->Bool) (hl:l.length<=1000000) (hc:caps.map AV.plain=caps) (hu:AV.pureL caps=true) (hr: ∀f,caps.map (AV.ren f)=caps) (hp: ∀a∈l,PC Tryz.prog gl g (a.av::caps) (fun v=>v= .bool (p a))):
  PC Tryz.prog gl 116 [.sl 4 (l.map Te.av) .none,.fn g [] caps] (fun v=>v= .int .i64 (oJ p l)):=by
 (refine PC.introY 2 mix (fn:=Tryz.f116) Tryz.func116 rfl (names 116 _ Tryz.func116) fun F hF hro W=>?_;simp only[Tryz.ntmps116,Tryz.results116,aJ,Nat.reduceAdd,Nat.reduceSub])
 repeat' (simp -implicitDefEqProofs (disch:=first|assumption|omega) only[aA,aC,facts,Nat.reduceAdd,Int.reduceNeg, *])
 refine kL [true,true,false,false,false,false,false,true,true,false,false,false,false,false,false,false,false,false,false] [] 100 l.length (fun i (_:Unit)=>⟨[.sl 4 (l.map Te.av) .none,.fn g [] caps,.ud,.ud,.ud,.ud,.ud,.int .i64 (l.length:Nat),.int .i64 (i:Nat),.ud,.ud,.ud,.ud,.ud,.ud,.ud,.ud,.ud,.ud],[]⟩) (fun _ _=>⟨[],100⟩) (fun i _=> ∀j,j<i-> ∀h:j<l.length,p l[j]=false) () oO rfl (by simp only[Fr.norm,kF,qU,List.map_cons,List.map_nil,AV.ren,AV.renL_eq,hr];rfl) ?_
 rintro i ⟨⟩ hi hQ
 repeat' (first
  |simp -implicitDefEqProofs (disch:=first|assumption|omega) only[aA,aC,facts,if_pos,Nat.reduceAdd,Int.reduceNeg,wrap_in,List.getElem?_eq_getElem,Te.av, *]
  |((with_reducible refine aF (fun _=>?_) (fun _=>?_))<;>try omega)
  |((with_reducible refine dL (fun _=>?_) (fun _=>?_))<;>try omega)
  |((with_reducible refine dI g ?_);refine PC.useY hF (hp l[i] (List.getElem_mem (by omega))) ((by simp only[List.map_cons,hc];exact rfl)) fun v hv=>?_;subst hv))
 ·rename_i h1 h2
  rw[zW (p:=p) (i:=i) (by omega) h2 fun j h h'=>hQ j h' h]
 ·rename_i h1 h2
  exact fJ () (by omega) (lX hQ fun _=>h2) rfl (by simp only[Fr.norm,kF,qU,List.map_cons,List.map_nil,AV.ren,AV.renL_eq,hr];rfl)
 ·rename_i h1
  rw[yB (p:=p) fun j h=>hQ j (by omega) h]
theorem Ws (l:List Te) (g:FuncId) (caps:List AV) (p:Te->Bool) (hl:l.length<=1000000) (hc:caps.map AV.plain=caps) (hu:AV.pureL caps=true) (hr: ∀f,caps.map (AV.ren f)=caps) (hp: ∀a∈l,PC Tryz.prog gl g (a.av::caps) (fun v=>v= .bool (p a))):
  PC Tryz.prog gl 76 [.sl 4 (l.map Te.av) .none,.fn g [] caps] (fun v=>v= .bool (l.any p)):=by
 (refine PC.introY 1 mix (fn:=Tryz.f76) Tryz.func76 rfl (names 76 _ Tryz.func76) fun F hF hro W=>?_;simp only[Tryz.ntmps76,Tryz.results76,aJ,Nat.reduceAdd,Nat.reduceSub])
 repeat' (first
  |simp -implicitDefEqProofs (disch:=first|assumption|omega) only[aA,aC,Nat.reduceAdd, *]
  |((with_reducible refine dI 116 ?_);refine PC.useY hF (aB1 l g caps p hl hc hu hr hp) ((by simp only[List.map_cons,List.map_nil,Yc,plain_fn (a:=[]) rfl hu])) fun v hv=>?_;subst hv))
 rw[<-Jf]
theorem aB2 (l:List Dy) (g:FuncId) (caps:List AV) (p:Dy->Bool) (hl:l.length<=1000000) (hc:caps.map AV.plain=caps) (hu:AV.pureL caps=true) (hr: ∀f,caps.map (AV.ren f)=caps) (hp: ∀a∈l,PC Tryz.prog gl g (a.av::caps) (fun v=>v= .bool (p a))):
  PC Tryz.prog gl 150 [.sl 4 (l.map Dy.av) .none,.fn g [] caps] (fun v=>v= .int .i64 (oJ p l)):=by
 (refine PC.introY 2 mix (fn:=Tryz.f150) Tryz.func150 rfl (names 150 _ Tryz.func150) fun F hF hro W=>?_;simp only[Tryz.ntmps150,Tryz.results150,aJ,Nat.reduceAdd,Nat.reduceSub])
 repeat' (simp -implicitDefEqProofs (disch:=first|assumption|omega) only[aA,aC,facts,Nat.reduceAdd,Int.reduceNeg, *])
 refine kL [true,true,false,false,false,false,false,true,true,false,false,false,false,false,false,false,false,false,false] [] 100 l.length (fun i (_:Unit)=>⟨[.sl 4 (l.map Dy.av) .none,.fn g [] caps,.ud,.ud,.ud,.ud,.ud,.int .i64 (l.length:Nat),.int .i64 (i:Nat),.ud,.ud,.ud,.ud,.ud,.ud,.ud,.ud,.ud,.ud],[]⟩) (fun _ _=>⟨[],100⟩) (fun i _=> ∀j,j<i-> ∀h:j<l.length,p l[j]=false) () oO rfl (by simp only[Fr.norm,kF,qU,List.map_cons,List.map_nil,AV.ren,AV.renL_eq,hr];rfl) ?_
 rintro i ⟨⟩ hi hQ
 repeat' (first
  |simp -implicitDefEqProofs (disch:=first|assumption|omega) only[aA,aC,facts,if_pos,Nat.reduceAdd,Int.reduceNeg,wrap_in,List.getElem?_eq_getElem,Dy.av, *]
  |((with_reducible refine aF (fun _=>?_) (fun _=>?_))<;>try omega)
  |((with_reducible refine dL (fun _=>?_) (fun _=>?_))<;>try omega)
  |((with_reducible refine dI g ?_);refine PC.useY hF (hp l[i] (List.getElem_mem (by omega))) ((by simp only[List.map_cons,hc];exact rfl)) fun v hv=>?_;subst hv))
 ·rename_i h1 h2
  rw[zW (p:=p) (i:=i) (by omega) h2 fun j h h'=>hQ j h' h]
 ·rename_i h1 h2
  exact fJ () (by omega) (lX hQ fun _=>h2) rfl (by simp only[Fr.norm,kF,qU,List.map_cons,List.map_nil,AV.ren,AV.renL_eq,hr];rfl)
 ·rename_i h1
  rw[yB (p:=p) fun j h=>hQ j (by omega) h]
theorem Wu (l:List Dy) (g:FuncId) (caps:List AV) (p:Dy->Bool) (hl:l.length<=1000000) (hc:caps.map AV.plain=caps) (hu:AV.pureL caps=true) (hr: ∀f,caps.map (AV.ren f)=caps) (hp: ∀a∈l,PC Tryz.prog gl g (a.av::caps) (fun v=>v= .bool (p a))):
  PC Tryz.prog gl 122 [.sl 4 (l.map Dy.av) .none,.fn g [] caps] (fun v=>v= .bool (l.any p)):=by
 (refine PC.introY 1 mix (fn:=Tryz.f122) Tryz.func122 rfl (names 122 _ Tryz.func122) fun F hF hro W=>?_;simp only[Tryz.ntmps122,Tryz.results122,aJ,Nat.reduceAdd,Nat.reduceSub])
 repeat' (first
  |simp -implicitDefEqProofs (disch:=first|assumption|omega) only[aA,aC,Nat.reduceAdd, *]
  |((with_reducible refine dI 150 ?_);refine PC.useY hF (aB2 l g caps p hl hc hu hr hp) ((by simp only[List.map_cons,List.map_nil,Yc,plain_fn (a:=[]) rfl hu])) fun v hv=>?_;subst hv))
 rw[<-Jf]
theorem aB3 (l:List Ev) (g:FuncId) (caps:List AV) (p:Ev->Bool) (hl:l.length<=1000000) (hc:caps.map AV.plain=caps) (hu:AV.pureL caps=true) (hr: ∀f,caps.map (AV.ren f)=caps) (hp: ∀a∈l,PC Tryz.prog gl g (a.av::caps) (fun v=>v= .bool (p a))):
  PC Tryz.prog gl 146 [.sl 9 (l.map Ev.av) .none,.fn g [] caps] (fun v=>v= .int .i64 (oJ p l)):=by
 (refine PC.introY 2 mix (fn:=Tryz.f146) Tryz.func146 rfl (names 146 _ Tryz.func146) fun F hF hro W=>?_;simp only[Tryz.ntmps146,Tryz.results146,aJ,Nat.reduceAdd,Nat.reduceSub])
 repeat' (simp -implicitDefEqProofs (disch:=first|assumption|omega) only[aA,aC,facts,Nat.reduceAdd,Int.reduceNeg, *])
 refine kL [true,true,false,false,false,false,false,true,true,false,false,false,false,false,false,false,false,false,false] [] 100 l.length (fun i (_:Unit)=>⟨[.sl 9 (l.map Ev.av) .none,.fn g [] caps,.ud,.ud,.ud,.ud,.ud,.int .i64 (l.length:Nat),.int .i64 (i:Nat),.ud,.ud,.ud,.ud,.ud,.ud,.ud,.ud,.ud,.ud],[]⟩) (fun _ _=>⟨[],100⟩) (fun i _=> ∀j,j<i-> ∀h:j<l.length,p l[j]=false) () oO rfl (by simp only[Fr.norm,kF,qU,List.map_cons,List.map_nil,AV.ren,AV.renL_eq,hr];rfl) ?_
 rintro i ⟨⟩ hi hQ
 repeat' (first
  |simp -implicitDefEqProofs (disch:=first|assumption|omega) only[aA,aC,facts,if_pos,Nat.reduceAdd,Int.reduceNeg,wrap_in,List.getElem?_eq_getElem,Ev.av, *]
  |((with_reducible refine aF (fun _=>?_) (fun _=>?_))<;>try omega)
  |((with_reducible refine dL (fun _=>?_) (fun _=>?_))<;>try omega)
  |((with_reducible refine dI g ?_);refine PC.useY hF (hp l[i] (List.getElem_mem (by omega))) ((by simp only[List.map_cons,hc];exact rfl)) fun v hv=>?_;subst hv))
 ·rename_i h1 h2
  rw[zW (p:=p) (i:=i) (by omega) h2 fun j h h'=>hQ j h' h]
 ·rename_i h1 h2
  exact fJ () (by omega) (lX hQ fun _=>h2) rfl (by simp only[Fr.norm,kF,qU,List.map_cons,List.map_nil,AV.ren,AV.renL_eq,hr];rfl)
 ·rename_i h1
  rw[yB (p:=p) fun j h=>hQ j (by omega) h]
def orI (x y:Int):Int:=if x=0 then y else x
theorem or_ok (x y:Int):PC Tryz.prog gl 141 [.sl 1 [.int .i64 x,.int .i64 y] .none] (fun v=>v= .int .i64 (orI x y)):=by
 (refine PC.introY 2 mix (fn:=Tryz.f141) Tryz.func141 rfl (names 141 _ Tryz.func141) fun F hF hro W=>?_;simp only[Tryz.ntmps141,Tryz.results141,aJ,Nat.reduceAdd,Nat.reduceSub])
 repeat' (simp -implicitDefEqProofs (disch:=first|assumption|omega) only[aA,aC,facts,Nat.reduceAdd, *])
 refine aN0 3 ?_
 repeat' (first
  |simp -implicitDefEqProofs (disch:=first|assumption|omega) only[aA,aC,facts,Nat.reduceAdd,Int.reduceLT,Int.reduceLE,Int.reduceToNat,Int.reduceAdd,wrap_in, *]
  |((with_reducible refine dL (fun _=>?_) (fun _=>?_))<;>try omega))
 all_goals first|grind[orI]|(simp_all [orI];done)|(simp [orI, *];omega)
def Pi.cmp (a b:Pi):Int:=if(a.right && b.right)=true then orI (aCa a.number b.number) (aCa a.line b.line) else 0
theorem yM {p:Pi} (h:p.right=true):p.fits=true:=by
 unfold Pi.right at h
 simp at h
 exact h.1
theorem aA7 (a b:Pi):PC Tryz.prog gl 111 [a.av,b.av] (fun v=>v= .int .i64 (a.cmp b)):=by
 (refine PC.introY 1 mix (fn:=Tryz.f111) Tryz.func111 rfl (names 111 _ Tryz.func111) fun F hF hro W=>?_;simp only[Tryz.ntmps111,Tryz.results111,aJ,Nat.reduceAdd,Nat.reduceSub])
 repeat' (first
  |simp -implicitDefEqProofs (disch:=first|assumption|omega) only[aA,aC,facts,if_pos,Nat.reduceAdd,Nat.reduceLT,Nat.reduceLeDiff,Pi.av, *]
  |((with_reducible refine jS 140 ?_);refine dK (xY a (yM (by simp_all))) (rfl) ?_)
  |((with_reducible refine jS 140 ?_);refine dK (xY b (yM (by simp_all))) (rfl) ?_)
  |((with_reducible refine jS 143 ?_);refine dK (Ai a (yM (by simp_all))) (rfl) ?_)
  |((with_reducible refine jS 143 ?_);refine dK (Ai b (yM (by simp_all))) (rfl) ?_)
  |((with_reducible refine jS 142 ?_);refine dK (aUn _ _) (rfl) ?_)
  |((with_reducible refine jS 141 ?_);refine dK (or_ok _ _) (rfl) ?_)
  |((with_reducible refine dR (fun _=>?_) (fun _=>?_))<;>try omega)
  |((with_reducible refine jW (fun _=>?_) (fun _=>?_))<;>try omega)
  |((with_reducible refine fQ ?_);refine gZ _ rfl (by decide+kernel) ?_)
  |((with_reducible refine dI 108 ?_);refine PC.useY hF (nO a) (rfl) fun v hv=>?_;subst hv)
  |((with_reducible refine dI 108 ?_);refine PC.useY hF (nO b) (rfl) fun v hv=>?_;subst hv))
 ·rename_i h;simp at h;simp [Pi.cmp,h]
 ·rename_i h1 h2;simp at h1;simp [Pi.cmp,h1,h2]
 ·rename_i h1 h2;simp [Pi.cmp,h2]
theorem aPp (m:Int):PC Tryz.prog gl 107 [.int .i64 m] (fun v=>v= .bool (m !=4)):=by
 (refine PC.introY 1 mix (fn:=Tryz.f107) Tryz.func107 rfl (names 107 _ Tryz.func107) fun F hF hro W=>?_;simp only[Tryz.ntmps107,Tryz.results107,aJ,Nat.reduceAdd,Nat.reduceSub])
 repeat' (simp -implicitDefEqProofs (disch:=first|assumption|omega) only[aA,aC,Nat.reduceAdd, *])
theorem aPq (a b:Pi):PC Tryz.prog gl 110 [a.av,b.av] (fun v=>v= .bool (decide (a.cmp b>0))):=by
 (refine PC.introY 1 mix (fn:=Tryz.f110) Tryz.func110 rfl (names 110 _ Tryz.func110) fun F hF hro W=>?_;simp only[Tryz.ntmps110,Tryz.results110,aJ,Nat.reduceAdd,Nat.reduceSub])
 repeat' (first
  |simp -implicitDefEqProofs (disch:=first|assumption|omega) only[aA,aC,facts,if_pos,Nat.reduceAdd,Pi.av, *]
  |((with_reducible refine dI 111 ?_);refine PC.useY hF (aA7 a b) (rfl) fun v hv=>?_;subst hv))
 all_goals first|grind[]|(simp_all [];done)|(simp [*];omega)
theorem aL1 (a b:Int):PC Tryz.prog gl 138 [.int .i64 a,.int .i64 b] (fun v=>v= .bool (decide (a>b))):=by
 (refine PC.introY 1 mix (fn:=Tryz.f138) Tryz.func138 rfl (names 138 _ Tryz.func138) fun F hF hro W=>?_;simp only[Tryz.ntmps138,Tryz.results138,aJ,Nat.reduceAdd,Nat.reduceSub])
 repeat' (simp -implicitDefEqProofs (disch:=first|assumption|omega) only[aA,aC,Nat.reduceAdd, *])
 all_goals first|grind[]|(simp_all [];done)|(simp [*];omega)
theorem Gf {i:Nat}:((i:Int) - 1).toNat=i - 1:=by omega
def Du {α:Type} (above:α->α->Bool) (l:List α):Bool:=Dz (l.length - 1) fun i=>match l[i+1]?,l[i]? with
 |some a,some b=>above a b
 |_,_=>true
theorem Vg {α:Type} {above:α->α->Bool} {l:List α} {i:Nat} (h0:0<i) (hi:i<l.length) (h:above l[i] l[i - 1]=false):Du above l=false:=by
 unfold Du
 refine pV (i:=i - 1) (by omega) ?_
 have e:i - 1+1=i:=by omega
 simp only[e,List.getElem?_eq_getElem hi,List.getElem?_eq_getElem (show i - 1<l.length by omega)]
 exact h
theorem Xj {α:Type} {above:α->α->Bool} {l:List α} (h: ∀i (hi:i<l.length),0<i->above l[i] l[i - 1]=true):Du above l=true:=by
 unfold Du
 refine Cj fun i hi=>?_
 have h1:i+1<l.length:=by omega
 simp only[List.getElem?_eq_getElem h1,List.getElem?_eq_getElem (show i<l.length by omega)]
 exact h (i+1) h1 (by omega)
theorem aH7 (l:List Int) (g:FuncId) (above:Int->Int->Bool) (hl:l.length<=1000000) (hp: ∀a b,PC Tryz.prog gl g [.int .i64 a,.int .i64 b] (fun v=>v= .bool (above a b))):
  PC Tryz.prog gl 137 [.sl 1 (l.map (AV.int .i64)) .none,.fn g [] []] (fun v=>v= .bool (Du above l)):=by
 (refine PC.introY 2 mix (fn:=Tryz.f137) Tryz.func137 rfl (names 137 _ Tryz.func137) fun F hF hro W=>?_;simp only[Tryz.ntmps137,Tryz.results137,aJ,Nat.reduceAdd,Nat.reduceSub])
 repeat' (simp -implicitDefEqProofs (disch:=first|assumption|omega) only[aA,aC,facts,Nat.reduceAdd, *])
 refine kL (fD 28 [0,1,7,8]) [] 100 l.length (fun i (_:Unit)=>⟨[.sl 1 (l.map (AV.int .i64)) .none,.fn g [] [],.ud,.ud,.ud,.ud,.ud,.int .i64 (l.length:Nat),.int .i64 (i:Nat),.ud,.ud,.ud,.ud,.ud,.ud,.ud,.ud,.ud,.ud,.ud,.ud,.ud,.ud,.ud,.ud,.ud,.ud,.ud],[]⟩) (fun _ _=>⟨[],100⟩) (fun i _=> ∀j,j<i-> ∀h:j<l.length,0<j->above l[j] l[j - 1]=true) () oO rfl rfl ?_
 rintro i ⟨⟩ hi hQ
 repeat' (first
  |simp -implicitDefEqProofs (disch:=first|assumption|omega) only[aA,aC,facts,if_pos,Nat.reduceAdd,wrap_in,List.getElem?_eq_getElem,Gf, *]
  |((with_reducible refine jS g ?_);refine dK (hp _ _) (rfl) ?_)
  |((with_reducible refine aF (fun _=>?_) (fun _=>?_))<;>try omega)
  |((with_reducible refine dR (fun _=>?_) (fun _=>?_))<;>try omega)
  |((with_reducible refine uZ (fun _=>?_) (fun _=>?_))<;>try omega)
  |((with_reducible refine fQ ?_);refine gZ _ rfl (by decide+kernel) ?_))
 ·rename_i h1 h2 h3
  exact fJ () (by omega) (lX hQ fun _ _=>h3) rfl rfl
 ·rename_i h1 h2 h3
  rw[Vg (i:=i) (by omega) (by omega) h3]
 ·rename_i h1 h2
  exact fJ () (by omega) (lX hQ fun _ h0=>by omega) rfl rfl
 ·rename_i h1
  rw[Xj fun j hj h0=>hQ j (by omega) hj h0]
theorem aL2 (l:List Pi) (g:FuncId) (above:Pi->Pi->Bool) (hl:l.length<=1000000) (hp: ∀a b,PC Tryz.prog gl g [a.av,b.av] (fun v=>v= .bool (above a b))):
  PC Tryz.prog gl 109 [.sl 3 (l.map Pi.av) .none,.fn g [] []] (fun v=>v= .bool (Du above l)):=by
 (refine PC.introY 2 mix (fn:=Tryz.f109) Tryz.func109 rfl (names 109 _ Tryz.func109) fun F hF hro W=>?_;simp only[Tryz.ntmps109,Tryz.results109,aJ,Nat.reduceAdd,Nat.reduceSub])
 repeat' (simp -implicitDefEqProofs (disch:=first|assumption|omega) only[aA,aC,facts,Nat.reduceAdd, *])
 refine kL (fD 28 [0,1,7,8]) [] 100 l.length (fun i (_:Unit)=>⟨[.sl 3 (l.map Pi.av) .none,.fn g [] [],.ud,.ud,.ud,.ud,.ud,.int .i64 (l.length:Nat),.int .i64 (i:Nat),.ud,.ud,.ud,.ud,.ud,.ud,.ud,.ud,.ud,.ud,.ud,.ud,.ud,.ud,.ud,.ud,.ud,.ud,.ud],[]⟩) (fun _ _=>⟨[],100⟩) (fun i _=> ∀j,j<i-> ∀h:j<l.length,0<j->above l[j] l[j - 1]=true) () oO rfl rfl ?_
 rintro i ⟨⟩ hi hQ
 repeat' (first
  |simp -implicitDefEqProofs (disch:=first|assumption|omega) only[aA,aC,facts,if_pos,Nat.reduceAdd,wrap_in,List.getElem?_eq_getElem,Gf,Pi.av, *]
  |((with_reducible refine jS g ?_);refine dK (hp _ _) (rfl) ?_)
  |((with_reducible refine aF (fun _=>?_) (fun _=>?_))<;>try omega)
  |((with_reducible refine dR (fun _=>?_) (fun _=>?_))<;>try omega)
  |((with_reducible refine uZ (fun _=>?_) (fun _=>?_))<;>try omega)
  |((with_reducible refine fQ ?_);refine gZ _ rfl (by decide+kernel) ?_))
 ·rename_i h1 h2 h3
  exact fJ () (by omega) (lX hQ fun _ _=>h3) rfl rfl
 ·rename_i h1 h2 h3
  rw[Vg (i:=i) (by omega) (by omega) h3]
 ·rename_i h1 h2
  exact fJ () (by omega) (lX hQ fun _ h0=>by omega) rfl rfl
 ·rename_i h1
  rw[Xj fun j hj h0=>hQ j (by omega) hj h0]
def Vh (l:List Int):Bool:=(l.all fun m=>decide (1<=m/\m<=4)) && Du (fun a b=>decide (a>b)) l
theorem aPr (l:List Int) (hl:l.length<=1000000):PC Tryz.prog gl 105 [.sl 1 (l.map (AV.int .i64)) .none] (fun v=>v= .bool (Vh l)):=by
 (refine PC.introY 2 mix (fn:=Tryz.f105) Tryz.func105 rfl (names 105 _ Tryz.func105) fun F hF hro W=>?_;simp only[Tryz.ntmps105,Tryz.results105,aJ,Nat.reduceAdd,Nat.reduceSub])
 repeat' (simp -implicitDefEqProofs (disch:=first|assumption|omega) only[aA,aC,facts,Nat.reduceAdd, *])
 refine kL (fD 20 [0,5,6,7]) [] 100 l.length (fun i (_:Unit)=>⟨[.sl 1 (l.map (AV.int .i64)) .none,.ud,.ud,.ud,.ud,.sl 1 (l.map (AV.int .i64)) .none,.int .i64 (l.length:Nat),.int .i64 (i:Nat),.ud,.ud,.ud,.ud,.ud,.ud,.ud,.ud,.ud,.ud,.ud,.ud],[]⟩) (fun _ _=>⟨[],100⟩) (fun i _=> ∀j,j<i-> ∀h:j<l.length,decide (1<=l[j]/\l[j]<=4)=true) () oO rfl rfl ?_
 rintro i ⟨⟩ hi hQ
 repeat' (first
  |simp -implicitDefEqProofs (disch:=first|assumption|omega) only[aA,aC,facts,Nat.reduceAdd,wrap_in,List.getElem?_eq_getElem, *]
  |((with_reducible refine aF (fun _=>?_) (fun _=>?_))<;>try omega)
  |((with_reducible refine iH (fun _=>?_) (fun _=>?_))<;>try omega)
  |((with_reducible refine dI 137 ?_);refine PC.useY hF (aH7 l _ _ hl aL1) (rfl) fun v hv=>?_;subst hv))
 ·rename_i h1 h2
  have:(l.all fun m=>decide (1<=m/\m<=4))=false:=zX (i:=i) (by omega) (by simp;omega)
  rw[Vh,this,Bool.false_and]
 ·rename_i h1 h2 h3
  have:(l.all fun m=>decide (1<=m/\m<=4))=false:=zX (i:=i) (by omega) (by simp;omega)
  rw[Vh,this,Bool.false_and]
 ·rename_i h1 h2 h3
  exact fJ () (by omega) (lX hQ fun _=>decide_eq_true (by omega)) rfl rfl
 ·rename_i h1
  have:(l.all fun m=>decide (1<=m/\m<=4))=true:=Xc fun j hj=>hQ j (by omega) hj
  rw[Vh,this,Bool.true_and]
end Go.Proofs.Pv
