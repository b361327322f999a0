/-
  Layer 8's check of a score: numbers, values, pitches.
  Layer 8's check of a score: lists.
  Layer 8's check of a score: pitches compared, what rises, marks.
  Conditions: none but those that each statement names.
-/
import Derived.Test.YtpapgaocjhnoiaaGreatDoorF08
import Derived.Test.YtpapgaocjhnoiaaGreatDoorD08
set_option linter.unusedVariables false
set_option linter.unusedSimpArgs false
namespace Go.Proofs.Pv
open Go Go.Proofs
set_option maxRecDepth 10000
set_option maxHeartbeats 4000000
theorem aQt (a:Int):PC Tryz.prog gl 157 [.int .i64 a] (fun v=>v= .bool false):=by
 (refine PC.introY 1 mix (fn:=Tryz.f157) Tryz.func157 rfl (names 157 _ Tryz.func157) fun F hF hro W=>?_;simp -implicitDefEqProofs only[Tryz.ntmps157,Tryz.results157,aI,Nat.reduceAdd,Nat.reduceSub])
 simp -implicitDefEqProofs (disch:=first|assumption|omega) only[aB,aC,facts,if_pos,if_neg,Nat.reduceAdd,Nat.reduceEqDiff,Nat.reduceLT,Nat.reduceLeDiff,Nat.reduceSub,Nat.reduceMul,Int.reduceLT,Int.reduceLE,Int.reduceToNat,Int.reduceGE,Int.reduceGT,Int.reduceBEq,Int.reduceBNe,Int.reduceNeg,Nat.reducePow,Int.reduceAdd,Int.reduceSub,Int.reduceMul,bne_self_eq_false]
def aBt (a b:Int):Int:=if a<b then -1 else if b<a then 1 else 0
theorem aTg (a b:Int):PC Tryz.prog gl 140 [.int .i64 a,.int .i64 b] (fun v=>v= .int .i64 (aBt a b)):=by
 (refine PC.introY 1 mix (fn:=Tryz.f140) Tryz.func140 rfl (names 140 _ Tryz.func140) fun F hF hro W=>?_;simp -implicitDefEqProofs only[Tryz.ntmps140,Tryz.results140,aI,Nat.reduceAdd,Nat.reduceSub])
 repeat' (first
  |simp -implicitDefEqProofs (disch:=first|assumption|omega) only[aB,aC,Nat.reduceAdd,Int.reduceNeg, *]
  |((with_reducible refine aH (fun _=>?_) (fun _=>?_))<;>try omega)
  |((with_reducible refine dD 157 ?_);refine PC.useY hF (aQt _) (rfl) fun v hv=>?_;subst hv))
 all_goals first|grind[aBt]|(simp_all [aBt];done)|(simp [aBt, *];omega)
theorem aOk (a b c:Int):PC Tryz.prog gl 131 [.int .i64 a,.int .i64 b,.int .i64 c] (fun v=>v= .bool (decide (b≤a) && decide (a≤c))):=by
 (refine PC.introY 1 mix (fn:=Tryz.f131) Tryz.func131 rfl (names 131 _ Tryz.func131) fun F hF hro W=>?_;simp -implicitDefEqProofs only[Tryz.ntmps131,Tryz.results131,aI,Nat.reduceAdd,Nat.reduceSub])
 repeat' (first
  |simp -implicitDefEqProofs (disch:=first|assumption|omega) only[aB,aC,Nat.reduceAdd, *]
  |((with_reducible refine jG (fun _=>?_) (fun _=>?_))<;>try omega))
 all_goals first|grind[]|(simp_all [];done)|(simp [*];omega)
def Va.right (v:Va):Bool:=decide (0≤v.base∧v.base≤6∧0≤v.dots∧v.dots≤2) && (decide (v.num=0∧v.den=0)||decide (2≤v.num∧v.num≤15∧1≤v.den∧v.den≤15∧v.num≠v.den))
theorem Df (v:Va):PC Tryz.prog gl 101 [v.av] (fun w=>w= .bool v.right):=by
 (refine PC.introY 1 mix (fn:=Tryz.f101) Tryz.func101 rfl (names 101 _ Tryz.func101) fun F hF hro W=>?_;simp -implicitDefEqProofs only[Tryz.ntmps101,Tryz.results101,aI,Nat.reduceAdd,Nat.reduceSub])
 repeat' (first
  |simp -implicitDefEqProofs (disch:=first|assumption|omega) only[aB,aC,facts,if_pos,Nat.reduceAdd,Nat.reduceLeDiff,Va.av, *]
  |((with_reducible refine iW (fun _=>?_) (fun _=>?_))<;>try omega)
  |((with_reducible refine oQ (fun _=>?_) (fun _=>?_))<;>try omega)
  |((with_reducible refine dD 131 ?_);refine PC.useY hF (aOk _ _ _) (rfl) fun v hv=>?_;subst hv))
 all_goals first|grind[Va.right]|(simp_all [Va.right];done)|(simp [Va.right, *];omega)
def half (s:Int):Int:=if s<3 then 2*s else 2*s - 1
def Pi.number (p:Pi):Int:=12*(p.octave+1)+half p.step+p.alter
def Pi.line (p:Pi):Int:=7*p.octave+p.step
def Pi.fits (p:Pi):Bool:=decide (0≤p.step∧p.step<7∧ -1≤p.octave∧p.octave≤9∧ -2≤p.alter∧p.alter≤2)
def Pi.right (p:Pi):Bool:=p.fits && decide (0≤p.number∧p.number≤127)
theorem aAe {s:Int} (h1:0≤s) (h2:s<7):s=0∨s=1∨s=2∨s=3∨s=4∨s=5∨s=6:=by omega
theorem wX (p:Pi) (h:p.fits=true):PC Tryz.prog gl 138 [p.av] (fun w=>w= .int .i64 p.number):=by
 simp only[Pi.fits,decide_eq_true_eq] at h
 obtain⟨h1,h2,h3,h4,h5,h6⟩:=h
 obtain⟨s,a,o⟩:=p
 simp only at h1 h2 h3 h4 h5 h6
 rcases aAe h1 h2 with rfl|rfl|rfl|rfl|rfl|rfl|rfl
 all_goals
  (refine PC.introY 1 mix (fn:=Tryz.f138) Tryz.func138 rfl (names 138 _ Tryz.func138) fun F hF hro W=>?_;simp -implicitDefEqProofs only[Tryz.ntmps138,Tryz.results138,aI,Nat.reduceAdd,Nat.reduceSub])
  repeat' (first
  |simp -implicitDefEqProofs (disch:=first|assumption|omega) only[aB,aC,facts,if_pos,Nat.reduceAdd,Nat.reduceLeDiff,Int.reduceToNat,Pi.av,wrap_in, *]
  |((with_reducible refine fH ?_);refine gI _ rfl (by decide+kernel) ?_))
  simp [Pi.number,half]
theorem zD (p:Pi) (h:p.fits=true):PC Tryz.prog gl 141 [p.av] (fun w=>w= .int .i64 p.line):=by
 simp only[Pi.fits,decide_eq_true_eq] at h
 obtain⟨h1,h2,h3,h4,h5,h6⟩:=h
 (refine PC.introY 1 mix (fn:=Tryz.f141) Tryz.func141 rfl (names 141 _ Tryz.func141) fun F hF hro W=>?_;simp -implicitDefEqProofs only[Tryz.ntmps141,Tryz.results141,aI,Nat.reduceAdd,Nat.reduceSub])
 repeat' (simp -implicitDefEqProofs (disch:=first|assumption|omega) only[aB,aC,facts,if_pos,Nat.reduceAdd,Nat.reduceLeDiff,Pi.av,wrap_in, *])
 all_goals first|grind[Pi.line]|(simp_all [Pi.line];done)|(simp [Pi.line, *];omega)
theorem mF (p:Pi):PC Tryz.prog gl 106 [p.av] (fun w=>w= .bool p.right):=by
 (refine PC.introY 1 mix (fn:=Tryz.f106) Tryz.func106 rfl (names 106 _ Tryz.func106) fun F hF hro W=>?_;simp -implicitDefEqProofs only[Tryz.ntmps106,Tryz.results106,aI,Nat.reduceAdd,Nat.reduceSub])
 repeat' (first
  |simp -implicitDefEqProofs (disch:=first|assumption|omega) only[aB,aC,facts,if_pos,Nat.reduceAdd,Nat.reduceLeDiff,Int.reduceNeg,Pi.av, *]
  |((with_reducible refine aH (fun _=>?_) (fun _=>?_))<;>try omega)
  |((with_reducible refine iH (fun _=>?_) (fun _=>?_))<;>try omega)
  |((with_reducible refine jG (fun _=>?_) (fun _=>?_))<;>try omega)
  |((with_reducible refine dD 138 ?_);refine PC.useY hF (wX p (by simp [Pi.fits];omega)) (rfl) fun v hv=>?_;subst hv))
 all_goals first|grind[Pi.right,Pi.fits]|(simp_all [Pi.right,Pi.fits];done)|(simp [Pi.right,Pi.fits, *];omega)
end Go.Proofs.Pv
namespace Go.Proofs.Pv
open Go Go.Proofs
set_option maxRecDepth 10000
set_option maxHeartbeats 4000000
theorem Zp (l:List Int) (g:FuncId) (caps:List AV) (p:Int→Bool) (hl:l.length≤1000000) (hc:caps.map AV.plain=caps) (hu:AV.pureL caps=true) (hr: ∀f,caps.map (AV.ren f)=caps) (hp: ∀a∈l,PC Tryz.prog gl g (.int .i64 a::caps) (fun v=>v= .bool (p a))):
  PC Tryz.prog gl 137 [.sl 1 (l.map (AV.int .i64)) .none,.fn g [] caps] (fun v=>v= .int .i64 (nI p l)):=by
 (refine PC.introY 2 mix (fn:=Tryz.f137) Tryz.func137 rfl (names 137 _ Tryz.func137) fun F hF hro W=>?_;simp -implicitDefEqProofs only[Tryz.ntmps137,Tryz.results137,aI,Nat.reduceAdd,Nat.reduceSub])
 repeat' (simp -implicitDefEqProofs (disch:=first|assumption|omega) only[aB,aC,facts,Nat.reduceAdd,Int.reduceNeg, *])
 refine jV [true,true,false,false,false,false,false,true,true,false,false,false,false,false,false,false,false,false,false] [] 100 l.length (fun i (_:Unit)=>⟨[.sl 1 (l.map (AV.int .i64)) .none,.fn g [] caps,.ud,.ud,.ud,.ud,.ud,.int .i64 (l.length:Nat),.int .i64 (i:Nat),.ud,.ud,.ud,.ud,.ud,.ud,.ud,.ud,.ud,.ud],[]⟩) (fun _ _=>⟨[],100⟩) (fun i _=> ∀j,j<i→ ∀h:j<l.length,p l[j]=false) () nO rfl (by simp only[Fr.norm,kH,qE,List.map_cons,List.map_nil,AV.ren,AV.renL_eq,hr];rfl) ?_
 rintro i ⟨⟩ hi hQ
 repeat' (first
  |simp -implicitDefEqProofs (disch:=first|assumption|omega) only[aB,aC,facts,Nat.reduceAdd,Int.reduceNeg,wrap_in,List.getElem?_eq_getElem, *]
  |((with_reducible refine aH (fun _=>?_) (fun _=>?_))<;>try omega)
  |((with_reducible refine dI (fun _=>?_) (fun _=>?_))<;>try omega)
  |((with_reducible refine dD g ?_);refine PC.useY hF (hp l[i] (List.getElem_mem (by omega))) ((by simp only[List.map_cons,hc,aNe])) fun v hv=>?_;subst hv))
 ·rename_i h1 h2
  rw[yS (p:=p) (i:=i) (by omega) h2 fun j h h'=>hQ j h' h]
 ·rename_i h1 h2
  exact fD () (by omega) (lF hQ fun _=>h2) rfl (by simp only[Fr.norm,kH,qE,List.map_cons,List.map_nil,AV.ren,AV.renL_eq,hr];rfl)
 ·rename_i h1
  rw[xA (p:=p) fun j h=>hQ j (by omega) h]
theorem Sv (l:List Int) (g:FuncId) (caps:List AV) (p:Int→Bool) (hl:l.length≤1000000) (hc:caps.map AV.plain=caps) (hu:AV.pureL caps=true) (hr: ∀f,caps.map (AV.ren f)=caps) (hp: ∀a∈l,PC Tryz.prog gl g (.int .i64 a::caps) (fun v=>v= .bool (p a))):
  PC Tryz.prog gl 104 [.sl 1 (l.map (AV.int .i64)) .none,.fn g [] caps] (fun v=>v= .bool (l.any p)):=by
 (refine PC.introY 1 mix (fn:=Tryz.f104) Tryz.func104 rfl (names 104 _ Tryz.func104) fun F hF hro W=>?_;simp -implicitDefEqProofs only[Tryz.ntmps104,Tryz.results104,aI,Nat.reduceAdd,Nat.reduceSub])
 repeat' (first
  |simp -implicitDefEqProofs (disch:=first|assumption|omega) only[aB,aC,Nat.reduceAdd, *]
  |((with_reducible refine dD 137 ?_);refine PC.useY hF (Zp l g caps p hl hc hu hr hp) ((by simp only[List.map_cons,List.map_nil,Xd,plain_fn (a:=[]) rfl hu])) fun v hv=>?_;subst hv))
 rw[←Ia]
theorem aBj (l:List Te) (g:FuncId) (caps:List AV) (p:Te→Bool) (hl:l.length≤1000000) (hc:caps.map AV.plain=caps) (hu:AV.pureL caps=true) (hr: ∀f,caps.map (AV.ren f)=caps) (hp: ∀a∈l,PC Tryz.prog gl g (a.av::caps) (fun v=>v= .bool (p a))):
  PC Tryz.prog gl 114 [.sl 4 (l.map Te.av) .none,.fn g [] caps] (fun v=>v= .int .i64 (nI p l)):=by
 (refine PC.introY 2 mix (fn:=Tryz.f114) Tryz.func114 rfl (names 114 _ Tryz.func114) fun F hF hro W=>?_;simp -implicitDefEqProofs only[Tryz.ntmps114,Tryz.results114,aI,Nat.reduceAdd,Nat.reduceSub])
 repeat' (simp -implicitDefEqProofs (disch:=first|assumption|omega) only[aB,aC,facts,Nat.reduceAdd,Int.reduceNeg, *])
 refine jV [true,true,false,false,false,false,false,true,true,false,false,false,false,false,false,false,false,false,false] [] 100 l.length (fun i (_:Unit)=>⟨[.sl 4 (l.map Te.av) .none,.fn g [] caps,.ud,.ud,.ud,.ud,.ud,.int .i64 (l.length:Nat),.int .i64 (i:Nat),.ud,.ud,.ud,.ud,.ud,.ud,.ud,.ud,.ud,.ud],[]⟩) (fun _ _=>⟨[],100⟩) (fun i _=> ∀j,j<i→ ∀h:j<l.length,p l[j]=false) () nO rfl (by simp only[Fr.norm,kH,qE,List.map_cons,List.map_nil,AV.ren,AV.renL_eq,hr];rfl) ?_
 rintro i ⟨⟩ hi hQ
 repeat' (first
  |simp -implicitDefEqProofs (disch:=first|assumption|omega) only[aB,aC,facts,if_pos,Nat.reduceAdd,Int.reduceNeg,wrap_in,List.getElem?_eq_getElem,Te.av, *]
  |((with_reducible refine aH (fun _=>?_) (fun _=>?_))<;>try omega)
  |((with_reducible refine dI (fun _=>?_) (fun _=>?_))<;>try omega)
  |((with_reducible refine dD g ?_);refine PC.useY hF (hp l[i] (List.getElem_mem (by omega))) ((by simp only[List.map_cons,hc];exact rfl)) fun v hv=>?_;subst hv))
 ·rename_i h1 h2
  rw[yS (p:=p) (i:=i) (by omega) h2 fun j h h'=>hQ j h' h]
 ·rename_i h1 h2
  exact fD () (by omega) (lF hQ fun _=>h2) rfl (by simp only[Fr.norm,kH,qE,List.map_cons,List.map_nil,AV.ren,AV.renL_eq,hr];rfl)
 ·rename_i h1
  rw[xA (p:=p) fun j h=>hQ j (by omega) h]
theorem Vh (l:List Te) (g:FuncId) (caps:List AV) (p:Te→Bool) (hl:l.length≤1000000) (hc:caps.map AV.plain=caps) (hu:AV.pureL caps=true) (hr: ∀f,caps.map (AV.ren f)=caps) (hp: ∀a∈l,PC Tryz.prog gl g (a.av::caps) (fun v=>v= .bool (p a))):
  PC Tryz.prog gl 72 [.sl 4 (l.map Te.av) .none,.fn g [] caps] (fun v=>v= .bool (l.any p)):=by
 (refine PC.introY 1 mix (fn:=Tryz.f72) Tryz.func72 rfl (names 72 _ Tryz.func72) fun F hF hro W=>?_;simp -implicitDefEqProofs only[Tryz.ntmps72,Tryz.results72,aI,Nat.reduceAdd,Nat.reduceSub])
 repeat' (first
  |simp -implicitDefEqProofs (disch:=first|assumption|omega) only[aB,aC,Nat.reduceAdd, *]
  |((with_reducible refine dD 114 ?_);refine PC.useY hF (aBj l g caps p hl hc hu hr hp) ((by simp only[List.map_cons,List.map_nil,Xd,plain_fn (a:=[]) rfl hu])) fun v hv=>?_;subst hv))
 rw[←Ia]
theorem aBk (l:List Dy) (g:FuncId) (caps:List AV) (p:Dy→Bool) (hl:l.length≤1000000) (hc:caps.map AV.plain=caps) (hu:AV.pureL caps=true) (hr: ∀f,caps.map (AV.ren f)=caps) (hp: ∀a∈l,PC Tryz.prog gl g (a.av::caps) (fun v=>v= .bool (p a))):
  PC Tryz.prog gl 148 [.sl 4 (l.map Dy.av) .none,.fn g [] caps] (fun v=>v= .int .i64 (nI p l)):=by
 (refine PC.introY 2 mix (fn:=Tryz.f148) Tryz.func148 rfl (names 148 _ Tryz.func148) fun F hF hro W=>?_;simp -implicitDefEqProofs only[Tryz.ntmps148,Tryz.results148,aI,Nat.reduceAdd,Nat.reduceSub])
 repeat' (simp -implicitDefEqProofs (disch:=first|assumption|omega) only[aB,aC,facts,Nat.reduceAdd,Int.reduceNeg, *])
 refine jV [true,true,false,false,false,false,false,true,true,false,false,false,false,false,false,false,false,false,false] [] 100 l.length (fun i (_:Unit)=>⟨[.sl 4 (l.map Dy.av) .none,.fn g [] caps,.ud,.ud,.ud,.ud,.ud,.int .i64 (l.length:Nat),.int .i64 (i:Nat),.ud,.ud,.ud,.ud,.ud,.ud,.ud,.ud,.ud,.ud],[]⟩) (fun _ _=>⟨[],100⟩) (fun i _=> ∀j,j<i→ ∀h:j<l.length,p l[j]=false) () nO rfl (by simp only[Fr.norm,kH,qE,List.map_cons,List.map_nil,AV.ren,AV.renL_eq,hr];rfl) ?_
 rintro i ⟨⟩ hi hQ
 repeat' (first
  |simp -implicitDefEqProofs (disch:=first|assumption|omega) only[aB,aC,facts,if_pos,Nat.reduceAdd,Int.reduceNeg,wrap_in,List.getElem?_eq_getElem,Dy.av, *]
  |((with_reducible refine aH (fun _=>?_) (fun _=>?_))<;>try omega)
  |((with_reducible refine dI (fun _=>?_) (fun _=>?_))<;>try omega)
  |((with_reducible refine dD g ?_);refine PC.useY hF (hp l[i] (List.getElem_mem (by omega))) ((by simp only[List.map_cons,hc];exact rfl)) fun v hv=>?_;subst hv))
 ·rename_i h1 h2
  rw[yS (p:=p) (i:=i) (by omega) h2 fun j h h'=>hQ j h' h]
 ·rename_i h1 h2
  exact fD () (by omega) (lF hQ fun _=>h2) rfl (by simp only[Fr.norm,kH,qE,List.map_cons,List.map_nil,AV.ren,AV.renL_eq,hr];rfl)
 ·rename_i h1
  rw[xA (p:=p) fun j h=>hQ j (by omega) h]
theorem Vj (l:List Dy) (g:FuncId) (caps:List AV) (p:Dy→Bool) (hl:l.length≤1000000) (hc:caps.map AV.plain=caps) (hu:AV.pureL caps=true) (hr: ∀f,caps.map (AV.ren f)=caps) (hp: ∀a∈l,PC Tryz.prog gl g (a.av::caps) (fun v=>v= .bool (p a))):
  PC Tryz.prog gl 120 [.sl 4 (l.map Dy.av) .none,.fn g [] caps] (fun v=>v= .bool (l.any p)):=by
 (refine PC.introY 1 mix (fn:=Tryz.f120) Tryz.func120 rfl (names 120 _ Tryz.func120) fun F hF hro W=>?_;simp -implicitDefEqProofs only[Tryz.ntmps120,Tryz.results120,aI,Nat.reduceAdd,Nat.reduceSub])
 repeat' (first
  |simp -implicitDefEqProofs (disch:=first|assumption|omega) only[aB,aC,Nat.reduceAdd, *]
  |((with_reducible refine dD 148 ?_);refine PC.useY hF (aBk l g caps p hl hc hu hr hp) ((by simp only[List.map_cons,List.map_nil,Xd,plain_fn (a:=[]) rfl hu])) fun v hv=>?_;subst hv))
 rw[←Ia]
theorem aBl (l:List Ev) (g:FuncId) (caps:List AV) (p:Ev→Bool) (hl:l.length≤1000000) (hc:caps.map AV.plain=caps) (hu:AV.pureL caps=true) (hr: ∀f,caps.map (AV.ren f)=caps) (hp: ∀a∈l,PC Tryz.prog gl g (a.av::caps) (fun v=>v= .bool (p a))):
  PC Tryz.prog gl 144 [.sl 9 (l.map Ev.av) .none,.fn g [] caps] (fun v=>v= .int .i64 (nI p l)):=by
 (refine PC.introY 2 mix (fn:=Tryz.f144) Tryz.func144 rfl (names 144 _ Tryz.func144) fun F hF hro W=>?_;simp -implicitDefEqProofs only[Tryz.ntmps144,Tryz.results144,aI,Nat.reduceAdd,Nat.reduceSub])
 repeat' (simp -implicitDefEqProofs (disch:=first|assumption|omega) only[aB,aC,facts,Nat.reduceAdd,Int.reduceNeg, *])
 refine jV [true,true,false,false,false,false,false,true,true,false,false,false,false,false,false,false,false,false,false] [] 100 l.length (fun i (_:Unit)=>⟨[.sl 9 (l.map Ev.av) .none,.fn g [] caps,.ud,.ud,.ud,.ud,.ud,.int .i64 (l.length:Nat),.int .i64 (i:Nat),.ud,.ud,.ud,.ud,.ud,.ud,.ud,.ud,.ud,.ud],[]⟩) (fun _ _=>⟨[],100⟩) (fun i _=> ∀j,j<i→ ∀h:j<l.length,p l[j]=false) () nO rfl (by simp only[Fr.norm,kH,qE,List.map_cons,List.map_nil,AV.ren,AV.renL_eq,hr];rfl) ?_
 rintro i ⟨⟩ hi hQ
 repeat' (first
  |simp -implicitDefEqProofs (disch:=first|assumption|omega) only[aB,aC,facts,if_pos,Nat.reduceAdd,Int.reduceNeg,wrap_in,List.getElem?_eq_getElem,Ev.av, *]
  |((with_reducible refine aH (fun _=>?_) (fun _=>?_))<;>try omega)
  |((with_reducible refine dI (fun _=>?_) (fun _=>?_))<;>try omega)
  |((with_reducible refine dD g ?_);refine PC.useY hF (hp l[i] (List.getElem_mem (by omega))) ((by simp only[List.map_cons,hc];exact rfl)) fun v hv=>?_;subst hv))
 ·rename_i h1 h2
  rw[yS (p:=p) (i:=i) (by omega) h2 fun j h h'=>hQ j h' h]
 ·rename_i h1 h2
  exact fD () (by omega) (lF hQ fun _=>h2) rfl (by simp only[Fr.norm,kH,qE,List.map_cons,List.map_nil,AV.ren,AV.renL_eq,hr];rfl)
 ·rename_i h1
  rw[xA (p:=p) fun j h=>hQ j (by omega) h]
end Go.Proofs.Pv
namespace Go.Proofs.Pv
open Go Go.Proofs
set_option maxRecDepth 10000
set_option maxHeartbeats 4000000
def orI (x y:Int):Int:=if x=0 then y else x
theorem or_ok (x y:Int):PC Tryz.prog gl 139 [.sl 1 [.int .i64 x,.int .i64 y] .none] (fun v=>v= .int .i64 (orI x y)):=by
 (refine PC.introY 2 mix (fn:=Tryz.f139) Tryz.func139 rfl (names 139 _ Tryz.func139) fun F hF hro W=>?_;simp -implicitDefEqProofs only[Tryz.ntmps139,Tryz.results139,aI,Nat.reduceAdd,Nat.reduceSub])
 repeat' (simp -implicitDefEqProofs (disch:=first|assumption|omega) only[aB,aC,facts,Nat.reduceAdd, *])
 refine aNd 3 ?_
 repeat' (first
  |simp -implicitDefEqProofs (disch:=first|assumption|omega) only[aB,aC,facts,Nat.reduceAdd,Int.reduceLT,Int.reduceLE,Int.reduceToNat,Int.reduceAdd,wrap_in, *]
  |((with_reducible refine dI (fun _=>?_) (fun _=>?_))<;>try omega))
 all_goals first|grind[orI]|(simp_all [orI];done)|(simp [orI, *];omega)
def Pi.cmp (a b:Pi):Int:=if(a.right && b.right)=true then orI (aBt a.number b.number) (aBt a.line b.line) else 0
theorem xK {p:Pi} (h:p.right=true):p.fits=true:=by
 unfold Pi.right at h
 simp at h
 exact h.1
theorem aAm (a b:Pi):PC Tryz.prog gl 109 [a.av,b.av] (fun v=>v= .int .i64 (a.cmp b)):=by
 (refine PC.introY 1 mix (fn:=Tryz.f109) Tryz.func109 rfl (names 109 _ Tryz.func109) fun F hF hro W=>?_;simp -implicitDefEqProofs only[Tryz.ntmps109,Tryz.results109,aI,Nat.reduceAdd,Nat.reduceSub])
 repeat' (first
  |simp -implicitDefEqProofs (disch:=first|assumption|omega) only[aB,aC,facts,if_pos,Nat.reduceAdd,Nat.reduceLT,Nat.reduceLeDiff,Pi.av, *]
  |((with_reducible refine kU 138 ?_);refine dV (wX a (xK (by simp_all))) (rfl) ?_)
  |((with_reducible refine kU 138 ?_);refine dV (wX b (xK (by simp_all))) (rfl) ?_)
  |((with_reducible refine kU 141 ?_);refine dV (zD a (xK (by simp_all))) (rfl) ?_)
  |((with_reducible refine kU 141 ?_);refine dV (zD b (xK (by simp_all))) (rfl) ?_)
  |((with_reducible refine kU 140 ?_);refine dV (aTg _ _) (rfl) ?_)
  |((with_reducible refine kU 139 ?_);refine dV (or_ok _ _) (rfl) ?_)
  |((with_reducible refine dO (fun _=>?_) (fun _=>?_))<;>try omega)
  |((with_reducible refine iW (fun _=>?_) (fun _=>?_))<;>try omega)
  |((with_reducible refine fH ?_);refine gI _ rfl (by decide+kernel) ?_)
  |((with_reducible refine dD 106 ?_);refine PC.useY hF (mF a) (rfl) fun v hv=>?_;subst hv)
  |((with_reducible refine dD 106 ?_);refine PC.useY hF (mF b) (rfl) fun v hv=>?_;subst hv))
 ·rename_i h;simp at h;simp [Pi.cmp,h]
 ·rename_i h1 h2;simp at h1;simp [Pi.cmp,h1,h2]
 ·rename_i h1 h2;simp [Pi.cmp,h2]
theorem aOt (m:Int):PC Tryz.prog gl 105 [.int .i64 m] (fun v=>v= .bool (m !=4)):=by
 (refine PC.introY 1 mix (fn:=Tryz.f105) Tryz.func105 rfl (names 105 _ Tryz.func105) fun F hF hro W=>?_;simp -implicitDefEqProofs only[Tryz.ntmps105,Tryz.results105,aI,Nat.reduceAdd,Nat.reduceSub])
 repeat' (simp -implicitDefEqProofs (disch:=first|assumption|omega) only[aB,aC,Nat.reduceAdd, *])
theorem aOu (a b:Pi):PC Tryz.prog gl 108 [a.av,b.av] (fun v=>v= .bool (decide (a.cmp b>0))):=by
 (refine PC.introY 1 mix (fn:=Tryz.f108) Tryz.func108 rfl (names 108 _ Tryz.func108) fun F hF hro W=>?_;simp -implicitDefEqProofs only[Tryz.ntmps108,Tryz.results108,aI,Nat.reduceAdd,Nat.reduceSub])
 repeat' (first
  |simp -implicitDefEqProofs (disch:=first|assumption|omega) only[aB,aC,facts,if_pos,Nat.reduceAdd,Pi.av, *]
  |((with_reducible refine dD 109 ?_);refine PC.useY hF (aAm a b) (rfl) fun v hv=>?_;subst hv))
 all_goals first|grind[]|(simp_all [];done)|(simp [*];omega)
theorem aLe (a b:Int):PC Tryz.prog gl 136 [.int .i64 a,.int .i64 b] (fun v=>v= .bool (decide (a>b))):=by
 (refine PC.introY 1 mix (fn:=Tryz.f136) Tryz.func136 rfl (names 136 _ Tryz.func136) fun F hF hro W=>?_;simp -implicitDefEqProofs only[Tryz.ntmps136,Tryz.results136,aI,Nat.reduceAdd,Nat.reduceSub])
 repeat' (simp -implicitDefEqProofs (disch:=first|assumption|omega) only[aB,aC,Nat.reduceAdd, *])
 all_goals first|grind[]|(simp_all [];done)|(simp [*];omega)
theorem Ef {i:Nat}:((i:Int) - 1).toNat=i - 1:=by omega
def Bj {α:Type} (above:α→α→Bool) (l:List α):Bool:=Bq (l.length - 1) fun i=>match l[i+1]?,l[i]? with
 |some a,some b=>above a b
 |_,_=>true
theorem Uj {α:Type} {above:α→α→Bool} {l:List α} {i:Nat} (h0:0<i) (hi:i<l.length) (h:above l[i] l[i - 1]=false):Bj above l=false:=by
 unfold Bj
 refine oJ (i:=i - 1) (by omega) ?_
 have e:i - 1+1=i:=by omega
 simp only[e,List.getElem?_eq_getElem hi,List.getElem?_eq_getElem (show i - 1<l.length by omega)]
 exact h
theorem We {α:Type} {above:α→α→Bool} {l:List α} (h: ∀i (hi:i<l.length),0<i→above l[i] l[i - 1]=true):Bj above l=true:=by
 unfold Bj
 refine Am fun i hi=>?_
 have h1:i+1<l.length:=by omega
 simp only[List.getElem?_eq_getElem h1,List.getElem?_eq_getElem (show i<l.length by omega)]
 exact h (i+1) h1 (by omega)
theorem aHt (l:List Int) (g:FuncId) (above:Int→Int→Bool) (hl:l.length≤1000000) (hp: ∀a b,PC Tryz.prog gl g [.int .i64 a,.int .i64 b] (fun v=>v= .bool (above a b))):
  PC Tryz.prog gl 135 [.sl 1 (l.map (AV.int .i64)) .none,.fn g [] []] (fun v=>v= .bool (Bj above l)):=by
 (refine PC.introY 2 mix (fn:=Tryz.f135) Tryz.func135 rfl (names 135 _ Tryz.func135) fun F hF hro W=>?_;simp -implicitDefEqProofs only[Tryz.ntmps135,Tryz.results135,aI,Nat.reduceAdd,Nat.reduceSub])
 repeat' (simp -implicitDefEqProofs (disch:=first|assumption|omega) only[aB,aC,facts,Nat.reduceAdd, *])
 refine jV (jQ 28 [0,1,7,8]) [] 100 l.length (fun i (_:Unit)=>⟨[.sl 1 (l.map (AV.int .i64)) .none,.fn g [] [],.ud,.ud,.ud,.ud,.ud,.int .i64 (l.length:Nat),.int .i64 (i:Nat),.ud,.ud,.ud,.ud,.ud,.ud,.ud,.ud,.ud,.ud,.ud,.ud,.ud,.ud,.ud,.ud,.ud,.ud,.ud],[]⟩) (fun _ _=>⟨[],100⟩) (fun i _=> ∀j,j<i→ ∀h:j<l.length,0<j→above l[j] l[j - 1]=true) () nO rfl rfl ?_
 rintro i ⟨⟩ hi hQ
 repeat' (first
  |simp -implicitDefEqProofs (disch:=first|assumption|omega) only[aB,aC,facts,if_pos,Nat.reduceAdd,wrap_in,List.getElem?_eq_getElem,Ef, *]
  |((with_reducible refine kU g ?_);refine dV (hp _ _) (rfl) ?_)
  |((with_reducible refine aH (fun _=>?_) (fun _=>?_))<;>try omega)
  |((with_reducible refine dO (fun _=>?_) (fun _=>?_))<;>try omega)
  |((with_reducible refine uC (fun _=>?_) (fun _=>?_))<;>try omega)
  |((with_reducible refine fH ?_);refine gI _ rfl (by decide+kernel) ?_))
 ·rename_i h1 h2 h3
  exact fD () (by omega) (lF hQ fun _ _=>h3) rfl rfl
 ·rename_i h1 h2 h3
  rw[Uj (i:=i) (by omega) (by omega) h3]
 ·rename_i h1 h2
  exact fD () (by omega) (lF hQ fun _ h0=>by omega) rfl rfl
 ·rename_i h1
  rw[We fun j hj h0=>hQ j (by omega) hj h0]
theorem aLf (l:List Pi) (g:FuncId) (above:Pi→Pi→Bool) (hl:l.length≤1000000) (hp: ∀a b,PC Tryz.prog gl g [a.av,b.av] (fun v=>v= .bool (above a b))):
  PC Tryz.prog gl 107 [.sl 3 (l.map Pi.av) .none,.fn g [] []] (fun v=>v= .bool (Bj above l)):=by
 (refine PC.introY 2 mix (fn:=Tryz.f107) Tryz.func107 rfl (names 107 _ Tryz.func107) fun F hF hro W=>?_;simp -implicitDefEqProofs only[Tryz.ntmps107,Tryz.results107,aI,Nat.reduceAdd,Nat.reduceSub])
 repeat' (simp -implicitDefEqProofs (disch:=first|assumption|omega) only[aB,aC,facts,Nat.reduceAdd, *])
 refine jV (jQ 28 [0,1,7,8]) [] 100 l.length (fun i (_:Unit)=>⟨[.sl 3 (l.map Pi.av) .none,.fn g [] [],.ud,.ud,.ud,.ud,.ud,.int .i64 (l.length:Nat),.int .i64 (i:Nat),.ud,.ud,.ud,.ud,.ud,.ud,.ud,.ud,.ud,.ud,.ud,.ud,.ud,.ud,.ud,.ud,.ud,.ud,.ud],[]⟩) (fun _ _=>⟨[],100⟩) (fun i _=> ∀j,j<i→ ∀h:j<l.length,0<j→above l[j] l[j - 1]=true) () nO rfl rfl ?_
 rintro i ⟨⟩ hi hQ
 repeat' (first
  |simp -implicitDefEqProofs (disch:=first|assumption|omega) only[aB,aC,facts,if_pos,Nat.reduceAdd,wrap_in,List.getElem?_eq_getElem,Ef,Pi.av, *]
  |((with_reducible refine kU g ?_);refine dV (hp _ _) (rfl) ?_)
  |((with_reducible refine aH (fun _=>?_) (fun _=>?_))<;>try omega)
  |((with_reducible refine dO (fun _=>?_) (fun _=>?_))<;>try omega)
  |((with_reducible refine uC (fun _=>?_) (fun _=>?_))<;>try omega)
  |((with_reducible refine fH ?_);refine gI _ rfl (by decide+kernel) ?_))
 ·rename_i h1 h2 h3
  exact fD () (by omega) (lF hQ fun _ _=>h3) rfl rfl
 ·rename_i h1 h2 h3
  rw[Uj (i:=i) (by omega) (by omega) h3]
 ·rename_i h1 h2
  exact fD () (by omega) (lF hQ fun _ h0=>by omega) rfl rfl
 ·rename_i h1
  rw[We fun j hj h0=>hQ j (by omega) hj h0]
def Uk (l:List Int):Bool:=(l.all fun m=>decide (1≤m∧m≤4)) && Bj (fun a b=>decide (a>b)) l
theorem aOv (l:List Int) (hl:l.length≤1000000):PC Tryz.prog gl 103 [.sl 1 (l.map (AV.int .i64)) .none] (fun v=>v= .bool (Uk l)):=by
 (refine PC.introY 2 mix (fn:=Tryz.f103) Tryz.func103 rfl (names 103 _ Tryz.func103) fun F hF hro W=>?_;simp -implicitDefEqProofs only[Tryz.ntmps103,Tryz.results103,aI,Nat.reduceAdd,Nat.reduceSub])
 repeat' (simp -implicitDefEqProofs (disch:=first|assumption|omega) only[aB,aC,facts,Nat.reduceAdd, *])
 refine jV (jQ 20 [0,5,6,7]) [] 100 l.length (fun i (_:Unit)=>⟨[.sl 1 (l.map (AV.int .i64)) .none,.ud,.ud,.ud,.ud,.sl 1 (l.map (AV.int .i64)) .none,.int .i64 (l.length:Nat),.int .i64 (i:Nat),.ud,.ud,.ud,.ud,.ud,.ud,.ud,.ud,.ud,.ud,.ud,.ud],[]⟩) (fun _ _=>⟨[],100⟩) (fun i _=> ∀j,j<i→ ∀h:j<l.length,decide (1≤l[j]∧l[j]≤4)=true) () nO rfl rfl ?_
 rintro i ⟨⟩ hi hQ
 repeat' (first
  |simp -implicitDefEqProofs (disch:=first|assumption|omega) only[aB,aC,facts,Nat.reduceAdd,wrap_in,List.getElem?_eq_getElem, *]
  |((with_reducible refine aH (fun _=>?_) (fun _=>?_))<;>try omega)
  |((with_reducible refine iH (fun _=>?_) (fun _=>?_))<;>try omega)
  |((with_reducible refine dD 135 ?_);refine PC.useY hF (aHt l _ _ hl aLe) (rfl) fun v hv=>?_;subst hv))
 ·rename_i h1 h2
  have:(l.all fun m=>decide (1≤m∧m≤4))=false:=yT (i:=i) (by omega) (by simp;omega)
  rw[Uk,this,Bool.false_and]
 ·rename_i h1 h2 h3
  have:(l.all fun m=>decide (1≤m∧m≤4))=false:=yT (i:=i) (by omega) (by simp;omega)
  rw[Uk,this,Bool.false_and]
 ·rename_i h1 h2 h3
  exact fD () (by omega) (lF hQ fun _=>decide_eq_true (by omega)) rfl rfl
 ·rename_i h1
  have:(l.all fun m=>decide (1≤m∧m≤4))=true:=Vq fun j hj=>hQ j (by omega) hj
  rw[Uk,this,Bool.true_and]
end Go.Proofs.Pv
