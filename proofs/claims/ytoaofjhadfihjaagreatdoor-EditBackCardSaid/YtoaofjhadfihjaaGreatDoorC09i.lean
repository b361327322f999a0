/-
slices.Insert at events.
Conditions: none but those that each statement names.
-/
import Derived.Test.YtoaofjhadfihjaaGreatDoorC09e
import Derived.Test.YtoaofjhadfihjaaGreatDoorPvBF
import Derived.Test.YtoaofjhadfihjaaGreatDoorD08
set_option linter.unusedVariables false
set_option linter.unusedSimpArgs false
set_option maxRecDepth 100000
set_option maxHeartbeats 16000000
namespace Go.Proofs.Pv
open Go Go.Proofs
theorem yS {k:Nat} {b b':aI} {r:List (Nat×aI)}:hset ((k,b)::r) k b'=(k,b')::r:=by simp [hset]
theorem insA (CA CB CV P:List AV) (a b m c:Nat) (hA:CA.length=a*9) (hB:CB.length=b*9) (hV:CV.length=(m+1)*9) (hPl:P.length=c*9 - (a+b)*9) (oA:CA.all AV.one=true) (oB:CB.all AV.one=true) (oV:CV.all AV.one=true) (hbd:a+b+(m+1)<=1000000) (hc:a+b<=c) (hcap:a+b+(m+1)<=c) (hb:b=0) (rA: ∀f,CA.map (AV.ren f)=CA) (rB: ∀f,CB.map (AV.ren f)=CB) (rV: ∀f,CV.map (AV.ren f)=CV):
  dD Tryz.prog gl 83 [.mcap 0 0 (a+b) c 9,.int .i64 (a:Nat),.msl 1 0 (m+1) 9] [(0,.cells (CA++CB++P)),(1,.cells CV)] 2 (.msl 0 0 (a+(m+1)+b) 9) [(0,CA++CV++CB)] 1:=by
 subst hb
 have hTV:List.take ((m+1)*9) CV=CV:=List.take_of_length_le (by omega)
 have hm1:(((m+1:Nat):Int)==0)=false:=by simp;omega
 have hlen:(CA++CB++P).length=c*9:=by simp [hA,hB,hPl];omega
 have hTA:List.take (a*9) (CA++CB++P)=CA:=by rw[List.append_assoc,List.take_left' hA]
 refine dD.intro 1 mix names (fn:=Tryz.f83) Tryz.func83 rfl fun F hF hro W=>?_
 simp only[Tryz.ntmps83,Tryz.results83,aJ,Nat.reduceAdd,Nat.reduceSub,aX,aY,aK,aN]
 repeat' (simp -implicitDefEqProofs (disch:=first|assumption|omega) only[aA,aC,facts,if_pos,Nat.reduceAdd,Nat.reduceEqDiff,Nat.reduceLT,Option.map_none,bnd,kD,cO,fB,splice, *])
 have hCB:CB=[]:=List.eq_nil_of_length_eq_zero (by omega)
 exact gW.one (cs:=CA++CV++CB) (rest:=List.drop (a*9+(m+1)*9) (CA++CB++P)) (by rw[hCB];simp [hget]) (by rw[List.map_append,List.map_append,rA,rB,rV])
theorem aA8 (CA CB CV P:List AV) (a b m c:Nat) (hA:CA.length=a*9) (hB:CB.length=b*9) (hV:CV.length=(m+1)*9) (hPl:P.length=c*9 - (a+b)*9) (oA:CA.all AV.one=true) (oB:CB.all AV.one=true) (oV:CV.all AV.one=true) (hbd:a+b+(m+1)<=1000000) (hc:a+b<=c) (hcap: ¬a+b+(m+1)<=c) (hb:b=0) (rA: ∀f,CA.map (AV.ren f)=CA) (rB: ∀f,CB.map (AV.ren f)=CB) (rV: ∀f,CV.map (AV.ren f)=CV):
  dD Tryz.prog gl 83 [.mcap 0 0 (a+b) c 9,.int .i64 (a:Nat),.msl 1 0 (m+1) 9] [(0,.cells (CA++CB++P)),(1,.cells CV)] 2 (.msl 0 0 (a+(m+1)+b) 9) [(0,CA++CV++CB)] 1:=by
 subst hb
 have hTV:List.take ((m+1)*9) CV=CV:=List.take_of_length_le (by omega)
 have hm1:(((m+1:Nat):Int)==0)=false:=by simp;omega
 have hlen:(CA++CB++P).length=c*9:=by simp [hA,hB,hPl];omega
 have hTA:List.take (a*9) (CA++CB++P)=CA:=by rw[List.append_assoc,List.take_left' hA]
 refine dD.intro 1 mix names (fn:=Tryz.f83) Tryz.func83 rfl fun F hF hro W=>?_
 simp only[Tryz.ntmps83,Tryz.results83,aJ,Nat.reduceAdd,Nat.reduceSub,aX,aY,aK,aN]
 repeat' (simp -implicitDefEqProofs (disch:=first|assumption|omega) only[aA,aC,facts,if_pos,if_neg,Nat.reduceAdd,Nat.reduceEqDiff,Nat.reduceLT,Option.map_none,bnd,kD,cO,fB,splice, *])
 have hCB:CB=[]:=List.eq_nil_of_length_eq_zero (by omega)
 exact gW.oneM (cs:=CA++CV++CB) (rest:=[]) (by rw[hCB];simp [hget]) (by rw[List.map_append,List.map_append,rA,rB,rV])
theorem insB (CA CB CV P:List AV) (a b m c:Nat) (hA:CA.length=a*9) (hB:CB.length=b*9) (hV:CV.length=(m+1)*9) (hPl:P.length=c*9 - (a+b)*9) (oA:CA.all AV.one=true) (oB:CB.all AV.one=true) (oV:CV.all AV.one=true) (hbd:a+b+(m+1)<=1000000) (hc:a+b<=c) (hcap:a+b+(m+1)<=c) (hb:0<b) (rA: ∀f,CA.map (AV.ren f)=CA) (rB: ∀f,CB.map (AV.ren f)=CB) (rV: ∀f,CV.map (AV.ren f)=CV):
  dD Tryz.prog gl 83 [.mcap 0 0 (a+b) c 9,.int .i64 (a:Nat),.msl 1 0 (m+1) 9] [(0,.cells (CA++CB++P)),(1,.cells CV)] 2 (.msl 0 0 (a+(m+1)+b) 9) [(0,CA++CV++CB)] 1:=by
 skip
 have hTV:List.take ((m+1)*9) CV=CV:=List.take_of_length_le (by omega)
 have hm1:(((m+1:Nat):Int)==0)=false:=by simp;omega
 have hz2:((a:Nat):Int)+((m+1:Nat):Int)=((a+(m+1):Nat):Int):=by omega
 have hz3:((a+b:Nat):Int)+((m+1:Nat):Int)=((a+b+(m+1):Nat):Int):=by omega
 have hn1:a+b+(m+1) - (a+(m+1))=b:=by omega
 have hn2:a+b+(m+1) - a=b+(m+1):=by omega
 have hq1:min (b+(m+1)) b=b:=by omega
 have hq2:min (m+1) (b+(m+1))=m+1:=by omega
 have hDA:List.drop (a*9) (CA++CB++P)=CB++P:=by rw[List.append_assoc,List.drop_left' hA]
 have hTT:List.take (b*9) (List.take ((b+(m+1))*9) (CB++P))=CB:=by rw[List.take_take,show min (b*9) ((b+(m+1))*9)=b*9 by omega,List.take_left' hB]
 have hab:(((a:Nat):Int)==((a+b:Nat):Int))=false:=by simp;omega
 refine dD.intro 1 mix names (fn:=Tryz.f83) Tryz.func83 rfl fun F hF hro W=>?_
 simp only[Tryz.ntmps83,Tryz.results83,aJ,Nat.reduceAdd,Nat.reduceSub,aX,aY,aK,aN]
 repeat' (first
  |simp -implicitDefEqProofs (disch:=first|assumption|omega) only[aA,aC,facts,if_pos,if_neg,Nat.reduceAdd,Nat.reduceEqDiff,Int.reduceLE,Option.map_none,bnd,Nat.zero_mul,Nat.sub_zero,Option.isSome_some,Nat.add_sub_cancel_left,wrap_in,cO,sJ,splice,oW,List.length_append,List.length_take,List.length_drop,AV.keysOf,List.flatMap_cons,List.flatMap_nil, *]
  |((with_reducible refine aF (fun _=>?_) (fun _=>?_))<;>try omega)
  |((with_reducible refine aO ?_);refine jG (by decide+kernel) ?_)
  |((with_reducible refine dP ?_ ?_);· decide+kernel)
  |((with_reducible refine aS 84 ?_);refine Lm (yU (fn:=Tryz.f84) (t:=28) (r:=4) (e:=50) (k:=9) Tryz.func84 (by kernel_rfl) (by kernel_rfl) (by kernel_rfl) (by kernel_rfl) Tryz.underlying28 sz50 (q1:=1) (q2:=0) (cs1:=CV) (cs2:=CA++CB++P) rfl rfl (by decide) (by simp only[List.length_append];omega) Ld Fp ?_)))
 obtain⟨Z,hZ1,hZ2⟩: ∃Z,List.take ((a+(m+1))*9) (CA++CB++P)=CA++Z/\Z.length=(m+1)*9:=by
  refine⟨List.take ((m+1)*9) (CB++P),?_,by simp only[List.length_take,List.length_append];omega⟩
  rw[List.append_assoc,show(a+(m+1))*9=CA.length+(m+1)*9 by omega,List.take_length_add_append]
 rw[hZ1,show a+b+(m+1)=a+(m+1)+b by omega]
 generalize List.drop ((a+(m+1))*9+b*9) (CA++CB++P)=D
 rw[show List.take (a*9) (CA++Z++CB++D)=CA by rw[List.append_assoc,List.append_assoc,List.take_left' hA],show List.drop (a*9+(m+1)*9) (CA++Z++CB++D)=CB++D by rw[List.append_assoc,List.drop_left' (by simp only[List.length_append];omega)]]
 exact gW.one (cs:=CA++CV++CB) (rest:=D) (by simp [hget]) (by rw[List.map_append,List.map_append,rA,rB,rV])
theorem aA9 (CA CB CV P:List AV) (a b m c:Nat) (hA:CA.length=a*9) (hB:CB.length=b*9) (hV:CV.length=(m+1)*9) (hPl:P.length=c*9 - (a+b)*9) (oA:CA.all AV.one=true) (oB:CB.all AV.one=true) (oV:CV.all AV.one=true) (hbd:a+b+(m+1)<=1000000) (hc:a+b<=c) (hcap: ¬a+b+(m+1)<=c) (hb:0<b) (rA: ∀f,CA.map (AV.ren f)=CA) (rB: ∀f,CB.map (AV.ren f)=CB) (rV: ∀f,CV.map (AV.ren f)=CV):
  dD Tryz.prog gl 83 [.mcap 0 0 (a+b) c 9,.int .i64 (a:Nat),.msl 1 0 (m+1) 9] [(0,.cells (CA++CB++P)),(1,.cells CV)] 2 (.msl 0 0 (a+(m+1)+b) 9) [(0,CA++CV++CB)] 1:=by
 skip
 have hTV:List.take ((m+1)*9) CV=CV:=List.take_of_length_le (by omega)
 have hm1:(((m+1:Nat):Int)==0)=false:=by simp;omega
 have hz2:((a:Nat):Int)+((m+1:Nat):Int)=((a+(m+1):Nat):Int):=by omega
 have hz3:((a+b:Nat):Int)+((m+1:Nat):Int)=((a+b+(m+1):Nat):Int):=by omega
 have hz4:((a+b+(m+1):Nat):Int) - (a:Int)=((b+(m+1):Nat):Int):=by omega
 have hn3:a+(b+(m+1)) - a=b+(m+1):=by omega
 have hn4:a+(b+(m+1)) - (a+(m+1))=b:=by omega
 have hq2:min (m+1) (b+(m+1))=m+1:=by omega
 have hDA:List.drop (a*9) (CA++CB++P)=CB++P:=by rw[List.append_assoc,List.drop_left' hA]
 have hTA:List.take (a*9) (CA++CB++P)=CA:=by rw[List.append_assoc,List.take_left' hA]
 have hTB:List.take (b*9) (CB++P)=CB:=List.take_left' hB
 have hZ: ∀n,(List.replicate n [AV.int .i64 0,AV.sl 3 [] .full,AV.sl 1 [] .full,AV.int .i64 0,AV.int .i64 0,AV.int .i64 0,AV.int .i64 0,AV.sl 1 [] .full,AV.str {data:= #[]}]).flatten.length=n*9:=by intro n;simp
 have hab:(((a:Nat):Int)==((a+b:Nat):Int))=false:=by simp;omega
 refine dD.intro 1 mix names (fn:=Tryz.f83) Tryz.func83 rfl fun F hF hro W=>?_
 simp only[Tryz.ntmps83,Tryz.results83,aJ,Nat.reduceAdd,Nat.reduceSub,aX,aY,aK,aN]
 repeat' (first
  |simp -implicitDefEqProofs (disch:=first|assumption|omega) only[aA,aC,facts,if_pos,if_neg,Nat.reduceAdd,Nat.reduceEqDiff,Nat.reduceLT,Int.reduceLE,Option.map_none,bnd,Nat.zero_mul,Nat.sub_zero,Option.isSome_some,Nat.add_sub_cancel_left,wrap_in,Ac,cO,sJ,splice,oW,List.length_append,List.length_take,List.length_drop,Nat.min_self,AV.keysOf,List.flatMap_cons,List.flatMap_nil, *]
  |((with_reducible refine aF (fun _=>?_) (fun _=>?_))<;>try omega)
  |((with_reducible refine aO ?_);refine jG (by decide+kernel) ?_)
  |((with_reducible refine dP ?_ ?_);· decide+kernel))
 generalize hY:(List.replicate (b+(m+1)) [AV.int .i64 0,AV.sl 3 [] .full,AV.sl 1 [] .full,AV.int .i64 0,AV.int .i64 0,AV.int .i64 0,AV.int .i64 0,AV.sl 1 [] .full,AV.str {data:= #[]}]).flatten=Y
 have hYl:Y.length=(b+(m+1))*9:=by rw[<-hY,hZ]
 rw[show List.take (a*9) (CA++Y)=CA from List.take_left' hA]
 have hD:List.drop (a*9+(m+1)*9) (CA++Y)=List.drop ((m+1)*9) Y:=by rw[<-hA,List.drop_length_add_append]
 rw[hD,List.take_of_length_le (l:=CB) (by omega),List.take_left' (by simp only[List.length_append];omega),List.drop_of_length_le (by simp only[List.length_append,List.length_drop];omega),show a+(m+1)+b=a+(b+(m+1)) by omega]
 exact gW.oneM (cs:=CA++CV++CB) (rest:=[]) (by simp [hget]) (by rw[List.map_append,List.map_append,rA,rB,rV])
theorem ins0 (CA CB:List AV) (a b:Nat) (hl:CA.length=a*9) (rA: ∀f,(CA++CB).map (AV.ren f)=CA++CB):
  dD Tryz.prog gl 83 [.msl 0 0 (a+b) 9,.int .i64 (a:Nat),.sl 9 [] .mut] [(0,.cells (CA++CB))] 2 (.msl 0 0 (a+b) 9) [(0,CA++CB)] 1:=by
 generalize CA++CB=X at rA ⊢
 clear hl
 refine dD.intro 1 mix names (fn:=Tryz.f83) Tryz.func83 rfl fun F hF hro W=>?_
 simp only[Tryz.ntmps83,Tryz.results83,aJ,Nat.reduceAdd,Nat.reduceSub,aX,aY,aK,aN]
 rcases Nat.eq_zero_or_pos b with hb|hb
 ·subst hb
  repeat' (simp -implicitDefEqProofs (disch:=first|assumption|omega) only[aA,aC,facts,if_pos,if_neg,Nat.reduceAdd,Option.map_none,bnd, *])
  exact gW.oneM (cs:=X) (rest:=[]) (by simp [hget]) (rA _)
 ·repeat' (simp -implicitDefEqProofs (disch:=first|assumption|omega) only[aA,aC,facts,if_pos,Nat.reduceAdd,Option.map_none,bnd,Nat.add_sub_cancel_left, *])
  exact gW.oneM (cs:=X) (rest:=[]) (by simp [hget]) (rA _)
theorem aDx (CA CB CV:List AV) (a b m:Nat) (hA:CA.length=a*9) (hB:CB.length=b*9) (hV:CV.length=m*9) (oA:CA.all AV.one=true) (oB:CB.all AV.one=true) (oV:CV.all AV.one=true) (rA: ∀f,CA.map (AV.ren f)=CA) (rB: ∀f,CB.map (AV.ren f)=CB) (rV: ∀f,CV.map (AV.ren f)=CV)
  (hbd:a+b+m<=1000000):dD Tryz.prog gl 83 [.msl 0 0 (a+b) 9,.int .i64 (a:Nat),iR 1 9 m] (hC ((0,CA++CB)::jH 1 CV m)) 2 (.msl 0 0 (a+m+b) 9) [(0,CA++CV++CB)] 1:=by
 cases m with
 |zero=>
  have hv0:CV=[]:=List.eq_nil_of_length_eq_zero (by omega)
  subst hv0
  rw[List.append_nil]
  exact ins0 CA CB a b hA (fun f=>by rw[List.map_append,rA,rB])
 |succ m=>
  simp only[dY,bJ,aK,aN]
  refine dD.cap (cs:=CA++CB) (by simp [hget]) fun c hc=>?_
  rw[yS]
  have hPl:(List.replicate (c*9 - (CA++CB).length) AV.ud).length=c*9 - (a+b)*9:=by simp [hA,hB];omega
  by_cases hcap:a+b+(m+1)<=c<;>rcases Nat.eq_zero_or_pos b with hb|hb
  ·exact insA CA CB CV _ a b m c hA hB hV hPl oA oB oV hbd hc hcap hb rA rB rV
  ·exact insB CA CB CV _ a b m c hA hB hV hPl oA oB oV hbd hc hcap hb rA rB rV
  ·exact aA8 CA CB CV _ a b m c hA hB hV hPl oA oB oV hbd hc hcap hb rA rB rV
  ·exact aA9 CA CB CV _ a b m c hA hB hV hPl oA oB oV hbd hc hcap hb rA rB rV
theorem aNq {f:FuncId} {args:List AV} {h0:List (Nat×aI)} {v:AV} {h1:List (Nat×List AV)} {F:Fence} (hF:Free F) (hro:F.round=none) {W:World} (wd:dD Tryz.prog gl f args h0 2 v h1 1) {nx:Nat} (hn:2<=nx) {K:AV->St->Prop} (he:args.map (AV.ren (bI 2 []))=args) (hh:aG (bI 2 []) h0 h0) (hK:K (v.ren (up nx)) ⟨hC (hup nx h1),nx+1⟩):aP F Tryz.prog gl W f args K ⟨h0,nx⟩:=
 dD.call hF hro wd (bI 2 []) (gK 2 []) (dH.of_fit (n1:=2) (marks:=[]) rfl rfl rfl).fg (dH.of_fit (n1:=2) (marks:=[]) rfl rfl rfl).top (st:=⟨h0,nx⟩) hh he hK
theorem rep1 (CA CB CV:List AV) (a b m:Nat) (hbd:a+b+m<=1000000) (rX: ∀f,(CA++CB).map (AV.ren f)=CA++CB) (rV: ∀f,CV.map (AV.ren f)=CV) (rR: ∀f,(CA++CV++CB).map (AV.ren f)=CA++CV++CB)
  (ins:dD Tryz.prog gl 83 [.msl 0 0 (a+b) 9,.int .i64 (a:Nat),iR 1 9 m] (hC ((0,CA++CB)::jH 1 CV m)) 2 (.msl 0 0 (a+m+b) 9) [(0,CA++CV++CB)] 1):
  dD Tryz.prog gl 49 [.msl 0 0 (a+b) 9,.int .i64 (a:Nat),.int .i64 (a:Nat),iR 1 9 m] (hC ((0,CA++CB)::jH 1 CV m)) 2 (.msl 0 0 (a+m+b) 9) [(0,CA++CV++CB)] 1:=by
 generalize CA++CV++CB=R at rR ins ⊢
 generalize CA++CB=X at rX ins ⊢
 cases m with
 |zero=>
  simp only[aX,aY,aK,aN] at ins ⊢
  refine dD.intro 1 mix names (fn:=Tryz.f49) Tryz.func49 rfl fun F hF hro W=>?_
  simp only[Tryz.ntmps49,Tryz.results49,aJ,Nat.reduceAdd,Nat.reduceSub,aX,aY,aK,aN]
  rcases Nat.eq_zero_or_pos b with hb|hb
  all_goals (try subst hb)
  all_goals repeat' (simp -implicitDefEqProofs (disch:=first|assumption|omega) only[aA,aC,facts,if_pos,if_neg,Nat.reduceAdd,Option.map_none,bnd, *])
  all_goals (refine nG (aNq hF hro ins (by decide) rfl (aG.cons 0 rfl rfl (rX _) aG.nil) ?_);simp only[mZ,eX,fH,aK,aN,rR,Nat.zero_add])
  all_goals repeat' (simp -implicitDefEqProofs (disch:=first|assumption|omega) only[aA,aC,Nat.reduceAdd, *])
  all_goals exact gW.oneM (cs:=R) (rest:=[]) (by simp [hget]) (rR _)
 |succ m=>
  simp only[dY,bJ,aK,aN] at ins ⊢
  refine dD.intro 1 mix names (fn:=Tryz.f49) Tryz.func49 rfl fun F hF hro W=>?_
  simp only[Tryz.ntmps49,Tryz.results49,aJ,Nat.reduceAdd,Nat.reduceSub,aX,aY,aK,aN]
  rcases Nat.eq_zero_or_pos b with hb|hb
  all_goals (try subst hb)
  all_goals repeat' (simp -implicitDefEqProofs (disch:=first|assumption|omega) only[aA,aC,facts,if_pos,if_neg,Nat.reduceAdd,Option.map_none,bnd, *])
  all_goals (refine nG (aNq hF hro ins (by decide) rfl (aG.cons 0 rfl rfl (rX _) (aG.cons 1 rfl rfl (rV _) aG.nil)) ?_);simp only[mZ,eX,fH,aK,aN,rR,Nat.zero_add])
  all_goals repeat' (simp -implicitDefEqProofs (disch:=first|assumption|omega) only[aA,aC,Nat.reduceAdd, *])
  all_goals exact gW.oneM (cs:=R) (rest:=[]) (by simp [hget]) (rR _)
theorem rep2 (CA CM CB CV P:List AV) (a d b m c:Nat) (hA:CA.length=a*9) (hM:CM.length=d*9) (hB:CB.length=b*9) (hPl:P.length=c*9 - (a+d+b)*9) (oA:CA.all AV.one=true) (oM:CM.all AV.one=true) (oB:CB.all AV.one=true) (oV:CV.all AV.one=true) (hbd:a+d+b+m+1<=1000000) (hc:a+d+b<=c) (hV:CV.length=0*9) (hd:0<d) (hb:b=0) (rA: ∀f,CA.map (AV.ren f)=CA) (rB: ∀f,CB.map (AV.ren f)=CB) (rV: ∀f,CV.map (AV.ren f)=CV):
  dD Tryz.prog gl 49 [.mcap 0 0 (a+d+b) c 9,.int .i64 (a:Nat),.int .i64 ((a+d:Nat):Int),.sl 9 [] .mut] [(0,.cells (CA++CM++CB++P))] 2 (.msl 0 0 (a+b) 9) [(0,CA++CV++CB)] 1:=by
 subst hb
 have had:(((a:Nat):Int)==((a+d:Nat):Int))=false:=by simp;omega
 have hTA:List.take (a*9) (CA++CM++CB++P)=CA:=by rw[List.append_assoc,List.append_assoc,List.take_left' hA]
 refine dD.intro 1 mix names (fn:=Tryz.f49) Tryz.func49 rfl fun F hF hro W=>?_
 simp only[Tryz.ntmps49,Tryz.results49,aJ,Nat.reduceAdd,Nat.reduceSub,aX,aY,aK,aN]
 repeat' (first
  |simp -implicitDefEqProofs (disch:=first|assumption|omega) only[aA,aC,facts,if_pos,if_neg,Nat.reduceAdd,Nat.reduceLT,Int.reduceLE,Option.map_none,bnd,Nat.zero_mul,Nat.sub_zero,Nat.add_sub_cancel_left,cO,fB,kD,splice,mW,List.length_append,List.flatMap_nil, *]
  |((with_reducible refine aF (fun _=>?_) (fun _=>?_))<;>try omega))
 have hCB:CB=[]:=List.eq_nil_of_length_eq_zero (by omega)
 have hCV:CV=[]:=List.eq_nil_of_length_eq_zero (by omega)
 subst hCB;subst hCV
 refine gW.one (cs:=CA++[]++[]) (by simp only[hget,if_true,List.append_nil,List.append_assoc];rfl) (by simp only[List.append_nil];exact rA _)
theorem rep3 (CA CM CB CV P:List AV) (a d b m c:Nat) (hA:CA.length=a*9) (hM:CM.length=d*9) (hB:CB.length=b*9) (hPl:P.length=c*9 - (a+d+b)*9) (oA:CA.all AV.one=true) (oM:CM.all AV.one=true) (oB:CB.all AV.one=true) (oV:CV.all AV.one=true) (hbd:a+d+b+m+1<=1000000) (hc:a+d+b<=c) (hV:CV.length=(m+1)*9) (hd:0<d) (hb:b=0) (hcap:a+(m+1)<=c) (hmd:m+1<d) (rA: ∀f,CA.map (AV.ren f)=CA) (rB: ∀f,CB.map (AV.ren f)=CB) (rV: ∀f,CV.map (AV.ren f)=CV):
  dD Tryz.prog gl 49 [.mcap 0 0 (a+d+b) c 9,.int .i64 (a:Nat),.int .i64 ((a+d:Nat):Int),.msl 1 0 (m+1) 9] [(0,.cells (CA++CM++CB++P)),(1,.cells CV)] 2 (.msl 0 0 (a+(m+1)+b) 9) [(0,CA++CV++CB)] 1:=by
 subst hb
 have had:(((a:Nat):Int)==((a+d:Nat):Int))=false:=by simp;omega
 have hTA:List.take (a*9) (CA++CM++CB++P)=CA:=by rw[List.append_assoc,List.append_assoc,List.take_left' hA]
 have hTV:List.take ((m+1)*9) CV=CV:=List.take_of_length_le (by omega)
 refine dD.intro 1 mix names (fn:=Tryz.f49) Tryz.func49 rfl fun F hF hro W=>?_
 simp only[Tryz.ntmps49,Tryz.results49,aJ,Nat.reduceAdd,Nat.reduceSub,aX,aY,aK,aN]
 repeat' (first
  |simp -implicitDefEqProofs (disch:=first|assumption|omega) only[aA,aC,facts,if_pos,if_neg,Nat.reduceAdd,Nat.reduceEqDiff,Nat.reduceLT,Int.reduceLE,Option.map_none,bnd,Nat.zero_mul,Nat.sub_zero,Nat.add_sub_cancel_left,cO,fB,kD,splice,mW,List.length_append,List.length_drop, *]
  |((with_reducible refine aF (fun _=>?_) (fun _=>?_))<;>try omega))
 have hCB:CB=[]:=List.eq_nil_of_length_eq_zero (by omega)
 rw[show List.take ((a+(m+1))*9) (CA++CV++List.drop (a*9+(m+1)*9) (CA++CM++CB++P))=CA++CV from List.take_left' (by simp only[List.length_append];omega)]
 subst hCB
 refine gW.one (cs:=CA++(CV++[])) (by simp only[hget,if_true,List.append_nil,List.append_assoc];rfl) (by simp only[List.append_nil,List.map_append,rA,rV])
theorem rep4 (CA CM CB CV P:List AV) (a d b m c:Nat) (hA:CA.length=a*9) (hM:CM.length=d*9) (hB:CB.length=b*9) (hPl:P.length=c*9 - (a+d+b)*9) (oA:CA.all AV.one=true) (oM:CM.all AV.one=true) (oB:CB.all AV.one=true) (oV:CV.all AV.one=true) (hbd:a+d+b+m+1<=1000000) (hc:a+d+b<=c) (hV:CV.length=(m+1)*9) (hd:0<d) (hb:b=0) (hcap:a+(m+1)<=c) (hmd: ¬m+1<d) (rA: ∀f,CA.map (AV.ren f)=CA) (rB: ∀f,CB.map (AV.ren f)=CB) (rV: ∀f,CV.map (AV.ren f)=CV):
  dD Tryz.prog gl 49 [.mcap 0 0 (a+d+b) c 9,.int .i64 (a:Nat),.int .i64 ((a+d:Nat):Int),.msl 1 0 (m+1) 9] [(0,.cells (CA++CM++CB++P)),(1,.cells CV)] 2 (.msl 0 0 (a+(m+1)+b) 9) [(0,CA++CV++CB)] 1:=by
 subst hb
 have had:(((a:Nat):Int)==((a+d:Nat):Int))=false:=by simp;omega
 have hTA:List.take (a*9) (CA++CM++CB++P)=CA:=by rw[List.append_assoc,List.append_assoc,List.take_left' hA]
 have hTV:List.take ((m+1)*9) CV=CV:=List.take_of_length_le (by omega)
 refine dD.intro 1 mix names (fn:=Tryz.f49) Tryz.func49 rfl fun F hF hro W=>?_
 simp only[Tryz.ntmps49,Tryz.results49,aJ,Nat.reduceAdd,Nat.reduceSub,aX,aY,aK,aN]
 repeat' (first
  |simp -implicitDefEqProofs (disch:=first|assumption|omega) only[aA,aC,facts,if_pos,Nat.reduceAdd,Nat.reduceEqDiff,Nat.reduceLT,Int.reduceLE,Option.map_none,bnd,Nat.zero_mul,Nat.sub_zero,Nat.add_sub_cancel_left,cO,fB,kD,splice,List.length_append, *]
  |((with_reducible refine aF (fun _=>?_) (fun _=>?_))<;>try omega))
 have hCB:CB=[]:=List.eq_nil_of_length_eq_zero (by omega)
 subst hCB
 refine gW.one (cs:=CA++(CV++[])) (by simp only[hget,if_true,List.append_nil,List.append_assoc];rfl) (by simp only[List.append_nil,List.map_append,rA,rV])
theorem rep5 (CA CM CB CV P:List AV) (a d b m c:Nat) (hA:CA.length=a*9) (hM:CM.length=d*9) (hB:CB.length=b*9) (hPl:P.length=c*9 - (a+d+b)*9) (oA:CA.all AV.one=true) (oM:CM.all AV.one=true) (oB:CB.all AV.one=true) (oV:CV.all AV.one=true) (hbd:a+d+b+m+1<=1000000) (hc:a+d+b<=c) (hV:CV.length=(m+1)*9) (hd:0<d) (hb:b=0) (hcap: ¬a+(m+1)<=c) (rA: ∀f,CA.map (AV.ren f)=CA) (rB: ∀f,CB.map (AV.ren f)=CB) (rV: ∀f,CV.map (AV.ren f)=CV):
  dD Tryz.prog gl 49 [.mcap 0 0 (a+d+b) c 9,.int .i64 (a:Nat),.int .i64 ((a+d:Nat):Int),.msl 1 0 (m+1) 9] [(0,.cells (CA++CM++CB++P)),(1,.cells CV)] 2 (.msl 0 0 (a+(m+1)+b) 9) [(0,CA++CV++CB)] 1:=by
 subst hb
 have had:(((a:Nat):Int)==((a+d:Nat):Int))=false:=by simp;omega
 have hTA:List.take (a*9) (CA++CM++CB++P)=CA:=by rw[List.append_assoc,List.append_assoc,List.take_left' hA]
 have hTV:List.take ((m+1)*9) CV=CV:=List.take_of_length_le (by omega)
 refine dD.intro 1 mix names (fn:=Tryz.f49) Tryz.func49 rfl fun F hF hro W=>?_
 simp only[Tryz.ntmps49,Tryz.results49,aJ,Nat.reduceAdd,Nat.reduceSub,aX,aY,aK,aN]
 repeat' (first
  |simp -implicitDefEqProofs (disch:=first|assumption|omega) only[aA,aC,facts,if_pos,if_neg,Nat.reduceAdd,Nat.reduceEqDiff,Nat.reduceLT,Int.reduceLE,Option.map_none,bnd,Nat.zero_mul,Nat.sub_zero,Nat.add_sub_cancel_left,cO,fB,kD,splice,List.length_append, *]
  |((with_reducible refine aF (fun _=>?_) (fun _=>?_))<;>try omega))
 have hCB:CB=[]:=List.eq_nil_of_length_eq_zero (by omega)
 exact gW.oneM (cs:=CA++CV++CB) (rest:=[]) (by rw[hCB];simp [hget]) (by rw[List.map_append,List.map_append,rA,rB,rV])
theorem rep6 (CA CM CB CV P:List AV) (a d b m c:Nat) (hA:CA.length=a*9) (hM:CM.length=d*9) (hB:CB.length=b*9) (hPl:P.length=c*9 - (a+d+b)*9) (oA:CA.all AV.one=true) (oM:CM.all AV.one=true) (oB:CB.all AV.one=true) (oV:CV.all AV.one=true) (hbd:a+d+b+m+1<=1000000) (hc:a+d+b<=c) (hV:CV.length=(m+1)*9) (hd:0<d) (hb:0<b) (hcap: ¬a+(m+1)+b<=c) (rA: ∀f,CA.map (AV.ren f)=CA) (rB: ∀f,CB.map (AV.ren f)=CB) (rV: ∀f,CV.map (AV.ren f)=CV):
  dD Tryz.prog gl 49 [.mcap 0 0 (a+d+b) c 9,.int .i64 (a:Nat),.int .i64 ((a+d:Nat):Int),.msl 1 0 (m+1) 9] [(0,.cells (CA++CM++CB++P)),(1,.cells CV)] 2 (.msl 0 0 (a+(m+1)+b) 9) [(0,CA++CV++CB)] 1:=by
 skip
 have had:(((a:Nat):Int)==((a+d:Nat):Int))=false:=by simp;omega
 have hjn:(((a+d:Nat):Int)==((a+d+b:Nat):Int))=false:=by simp;omega
 have hTA:List.take (a*9) (CA++CM++CB++P)=CA:=by rw[List.append_assoc,List.append_assoc,List.take_left' hA]
 have hTV:List.take ((m+1)*9) CV=CV:=List.take_of_length_le (by omega)
 have hDM:List.drop ((a+d)*9) (CA++CM++CB++P)=CB++P:=by rw[List.append_assoc,List.drop_left' (by simp only[List.length_append];omega)]
 have hTB:List.take (b*9) (CB++P)=CB:=List.take_left' hB
 have hTB2:List.take (b*9) CB=CB:=List.take_of_length_le (by omega)
 have hZ: ∀n,(List.replicate n [AV.int .i64 0,AV.sl 3 [] .full,AV.sl 1 [] .full,AV.int .i64 0,AV.int .i64 0,AV.int .i64 0,AV.int .i64 0,AV.sl 1 [] .full,AV.str {data:= #[]}]).flatten.length=n*9:=by intro n;simp
 have hn1:a+d+b - (a+d)=b:=by omega
 have hz7:((a+(m+1):Nat):Int)+((b:Nat):Int)=((a+(m+1)+b:Nat):Int):=by omega
 have hz2:((a:Nat):Int)+((m+1:Nat):Int)=((a+(m+1):Nat):Int):=by omega
 have hz6:((a+(m+1)+b:Nat):Int) - (a:Int)=((m+1+b:Nat):Int):=by omega
 have hn3:a+(m+1+b) - a=m+1+b:=by omega
 have hn4:a+(m+1+b) - (a+(m+1))=b:=by omega
 have hq2:min (m+1) (m+1+b)=m+1:=by omega
 refine dD.intro 1 mix names (fn:=Tryz.f49) Tryz.func49 rfl fun F hF hro W=>?_
 simp only[Tryz.ntmps49,Tryz.results49,aJ,Nat.reduceAdd,Nat.reduceSub,aX,aY,aK,aN]
 repeat' (first
  |simp -implicitDefEqProofs (disch:=first|assumption|omega) only[aA,aC,facts,if_pos,if_neg,Nat.reduceAdd,Nat.reduceEqDiff,Nat.reduceLT,Int.reduceLE,Option.map_none,bnd,Nat.zero_mul,Nat.sub_zero,Option.isSome_some,Nat.add_sub_cancel_left,wrap_in,cO,sJ,fB,kD,splice,oW,List.length_append,List.length_take,List.length_drop,Nat.min_self,AV.keysOf,List.flatMap_cons,List.flatMap_nil,Ac, *]
  |((with_reducible refine aF (fun _=>?_) (fun _=>?_))<;>try omega)
  |((with_reducible refine aO ?_);refine kG _ rfl (by decide+kernel) ?_)
  |((with_reducible refine aO ?_);refine jG (by decide+kernel) ?_)
  |((with_reducible refine dP ?_ ?_);· decide+kernel))
 generalize hY:(List.replicate (m+1+b) [AV.int .i64 0,AV.sl 3 [] .full,AV.sl 1 [] .full,AV.int .i64 0,AV.int .i64 0,AV.int .i64 0,AV.int .i64 0,AV.sl 1 [] .full,AV.str {data:= #[]}]).flatten=Y
 have hYl:Y.length=(m+1+b)*9:=by rw[<-hY,hZ]
 rw[show List.take (a*9) (CA++Y)=CA from List.take_left' hA]
 have hD:List.drop (a*9+(m+1)*9) (CA++Y)=List.drop ((m+1)*9) Y:=by rw[<-hA,List.drop_length_add_append]
 rw[hD,List.take_left' (by simp only[List.length_append];omega),List.drop_of_length_le (by simp only[List.length_append,List.length_drop];omega),show a+(m+1)+b=a+(m+1+b) by omega]
 exact gW.oneM (cs:=CA++CV++CB) (rest:=[]) (by simp [hget]) (by rw[List.map_append,List.map_append,rA,rB,rV])
theorem rep7 (CA CM CB CV P:List AV) (a d b m c:Nat) (hA:CA.length=a*9) (hM:CM.length=d*9) (hB:CB.length=b*9) (hPl:P.length=c*9 - (a+d+b)*9) (oA:CA.all AV.one=true) (oM:CM.all AV.one=true) (oB:CB.all AV.one=true) (oV:CV.all AV.one=true) (hbd:a+d+b+m+1<=1000000) (hc:a+d+b<=c) (hV:CV.length=0*9) (hd:0<d) (hb:0<b) (rA: ∀f,CA.map (AV.ren f)=CA) (rB: ∀f,CB.map (AV.ren f)=CB) (rV: ∀f,CV.map (AV.ren f)=CV):
  dD Tryz.prog gl 49 [.mcap 0 0 (a+d+b) c 9,.int .i64 (a:Nat),.int .i64 ((a+d:Nat):Int),.sl 9 [] .mut] [(0,.cells (CA++CM++CB++P))] 2 (.msl 0 0 (a+b) 9) [(0,CA++CV++CB)] 1:=by
 skip
 have had:(((a:Nat):Int)==((a+d:Nat):Int))=false:=by simp;omega
 have hjn:(((a+d:Nat):Int)==((a+d+b:Nat):Int))=false:=by simp;omega
 have hTA:List.take (a*9) (CA++CM++CB++P)=CA:=by rw[List.append_assoc,List.append_assoc,List.take_left' hA]
 have hDM:List.drop ((a+d)*9) (CA++CM++CB++P)=CB++P:=by rw[List.append_assoc,List.drop_left' (by simp only[List.length_append];omega)]
 have hTB:List.take (b*9) (CB++P)=CB:=List.take_left' hB
 have hTB2:List.take (b*9) CB=CB:=List.take_of_length_le (by omega)
 have hn1:a+d+b - (a+d)=b:=by omega
 have hz8:((a:Nat):Int)+((b:Nat):Int)=((a+b:Nat):Int):=by omega
 have hn7:a+b - a=b:=by omega
 refine dD.intro 1 mix names (fn:=Tryz.f49) Tryz.func49 rfl fun F hF hro W=>?_
 simp only[Tryz.ntmps49,Tryz.results49,aJ,Nat.reduceAdd,Nat.reduceSub,aX,aY,aK,aN]
 repeat' (first
  |simp -implicitDefEqProofs (disch:=first|assumption|omega) only[aA,aC,facts,if_pos,if_neg,Nat.reduceAdd,Nat.reduceEqDiff,Int.reduceLE,Option.map_none,bnd,Nat.zero_mul,Nat.sub_zero,Option.isSome_some,Nat.add_sub_cancel_left,wrap_in,cO,sJ,fB,kD,splice,oW,mW,Int.add_zero,and_false,List.take_nil,List.length_append,List.length_drop,Nat.min_self,AV.keysOf,List.flatMap_cons,List.flatMap_nil, *]
  |((with_reducible refine aF (fun _=>?_) (fun _=>?_))<;>try omega)
  |((with_reducible refine aO ?_);refine kG _ rfl (by decide+kernel) ?_)
  |((with_reducible refine aO ?_);refine jG (by decide+kernel) ?_)
  |((with_reducible refine dP ?_ ?_);· decide+kernel))
 have hCV:CV=[]:=List.eq_nil_of_length_eq_zero (by omega)
 subst hCV
 rw[show List.take ((a+b)*9) (CA++CB++List.drop (a*9+b*9) (CA++CM++CB++P))=CA++CB from List.take_left' (by simp only[List.length_append];omega)]
 refine gW.one (cs:=CA++CB) (by simp only[hget,if_true,List.append_assoc];rfl) (by simp only[List.append_nil,List.map_append,rA,rB])
theorem rep8a (CA CM CB CV P:List AV) (a d b m c:Nat) (hA:CA.length=a*9) (hM:CM.length=d*9) (hB:CB.length=b*9) (hPl:P.length=c*9 - (a+d+b)*9) (oA:CA.all AV.one=true) (oM:CM.all AV.one=true) (oB:CB.all AV.one=true) (oV:CV.all AV.one=true) (hbd:a+d+b+m+1<=1000000) (hc:a+d+b<=c) (hV:CV.length=(m+1)*9) (hd:0<d) (hb:0<b) (hcap:a+(m+1)+b<=c) (hmd:m+1<=d) (hcc:a+(m+1)+b<c) (hme:m+1<d) (rA: ∀f,CA.map (AV.ren f)=CA) (rB: ∀f,CB.map (AV.ren f)=CB) (rV: ∀f,CV.map (AV.ren f)=CV):
  dD Tryz.prog gl 49 [.mcap 0 0 (a+d+b) c 9,.int .i64 (a:Nat),.int .i64 ((a+d:Nat):Int),.msl 1 0 (m+1) 9] [(0,.cells (CA++CM++CB++P)),(1,.cells CV)] 2 (.msl 0 0 (a+(m+1)+b) 9) [(0,CA++CV++CB)] 1:=by
 obtain⟨CM2,hD8,hM2⟩: ∃X,List.drop (a*9+(m+1)*9) (CA++CM++CB++P)=X++(CB++P)/\X.length=(d - (m+1))*9:=by
  refine⟨List.drop ((m+1)*9) CM,?_,by simp only[List.length_drop];omega⟩
  rw[List.append_assoc,List.append_assoc,<-hA,List.drop_length_add_append,List.drop_append_of_le_length (by omega)]
 have h8:List.drop ((a+d)*9) (CA++CV++(CM2++(CB++P)))=CB++P:=by rw[<-List.append_assoc,List.drop_left' (by simp only[List.length_append];omega)]
 have had:(((a:Nat):Int)==((a+d:Nat):Int))=false:=by simp;omega
 have hjn:(((a+d:Nat):Int)==((a+d+b:Nat):Int))=false:=by simp;omega
 have hTA:List.take (a*9) (CA++CM++CB++P)=CA:=by rw[List.append_assoc,List.append_assoc,List.take_left' hA]
 have hTV:List.take ((m+1)*9) CV=CV:=List.take_of_length_le (by omega)
 have hDM:List.drop ((a+d)*9) (CA++CM++CB++P)=CB++P:=by rw[List.append_assoc,List.drop_left' (by simp only[List.length_append];omega)]
 have hTB:List.take (b*9) (CB++P)=CB:=List.take_left' hB
 have hTB2:List.take (b*9) CB=CB:=List.take_of_length_le (by omega)
 have hn1:a+d+b - (a+d)=b:=by omega
 have hz7:((a+(m+1):Nat):Int)+((b:Nat):Int)=((a+(m+1)+b:Nat):Int):=by omega
 have hz2:((a:Nat):Int)+((m+1:Nat):Int)=((a+(m+1):Nat):Int):=by omega
 have hn5:a+(m+1)+b - a=m+1+b:=by omega
 have hn6:a+(m+1)+b - (a+(m+1))=b:=by omega
 have hq2:min (m+1) (m+1+b)=m+1:=by omega
 refine dD.intro 1 mix names (fn:=Tryz.f49) Tryz.func49 rfl fun F hF hro W=>?_
 simp only[Tryz.ntmps49,Tryz.results49,aJ,Nat.reduceAdd,Nat.reduceSub,aX,aY,aK,aN]
 repeat' (first
  |simp -implicitDefEqProofs (disch:=first|assumption|omega) only[aA,aC,facts,if_pos,if_neg,Nat.reduceAdd,Nat.reduceEqDiff,Int.reduceLE,Option.map_none,bnd,Nat.zero_mul,Nat.sub_zero,Option.isSome_some,Nat.add_sub_cancel_left,wrap_in,cO,sJ,fB,kD,splice,oW,mW,List.length_append,List.length_take,List.length_drop,Nat.min_self,AV.keysOf,List.flatMap_cons,List.flatMap_nil, *]
  |((with_reducible refine aF (fun _=>?_) (fun _=>?_))<;>try omega)
  |((with_reducible refine aO ?_);refine kG _ rfl (by decide+kernel) ?_)
  |((with_reducible refine aO ?_);refine jG (by decide+kernel) ?_)
  |((with_reducible refine dP ?_ ?_);· decide+kernel))
 rw[show List.take ((a+(m+1))*9) (CA++CV++(CM2++(CB++P)))=CA++CV from List.take_left' (by simp only[List.length_append];omega)]
 generalize List.drop ((a+(m+1))*9+b*9) (CA++CV++(CM2++(CB++P)))=D
 rw[show List.take ((a+(m+1)+b)*9) (CA++CV++CB++D)=CA++CV++CB from List.take_left' (by simp only[List.length_append];omega)]
 refine gW.one (cs:=CA++CV++CB) (by simp only[hget,if_true,List.append_assoc];rfl) (by simp only[List.map_append,rA,rB,rV])
theorem rep8b (CA CM CB CV P:List AV) (a d b m c:Nat) (hA:CA.length=a*9) (hM:CM.length=d*9) (hB:CB.length=b*9) (hPl:P.length=c*9 - (a+d+b)*9) (oA:CA.all AV.one=true) (oM:CM.all AV.one=true) (oB:CB.all AV.one=true) (oV:CV.all AV.one=true) (hbd:a+d+b+m+1<=1000000) (hc:a+d+b<=c) (hV:CV.length=(m+1)*9) (hd:0<d) (hb:0<b) (hcap:a+(m+1)+b<=c) (hmd:m+1<=d) (hcc: ¬a+(m+1)+b<c) (rA: ∀f,CA.map (AV.ren f)=CA) (rB: ∀f,CB.map (AV.ren f)=CB) (rV: ∀f,CV.map (AV.ren f)=CV):
  dD Tryz.prog gl 49 [.mcap 0 0 (a+d+b) c 9,.int .i64 (a:Nat),.int .i64 ((a+d:Nat):Int),.msl 1 0 (m+1) 9] [(0,.cells (CA++CM++CB++P)),(1,.cells CV)] 2 (.msl 0 0 (a+(m+1)+b) 9) [(0,CA++CV++CB)] 1:=by
 obtain⟨CM2,hD8,hM2⟩: ∃X,List.drop (a*9+(m+1)*9) (CA++CM++CB++P)=X++(CB++P)/\X.length=(d - (m+1))*9:=by
  refine⟨List.drop ((m+1)*9) CM,?_,by simp only[List.length_drop];omega⟩
  rw[List.append_assoc,List.append_assoc,<-hA,List.drop_length_add_append,List.drop_append_of_le_length (by omega)]
 have h8:List.drop ((a+d)*9) (CA++CV++(CM2++(CB++P)))=CB++P:=by rw[<-List.append_assoc,List.drop_left' (by simp only[List.length_append];omega)]
 have had:(((a:Nat):Int)==((a+d:Nat):Int))=false:=by simp;omega
 have hjn:(((a+d:Nat):Int)==((a+d+b:Nat):Int))=false:=by simp;omega
 have hTA:List.take (a*9) (CA++CM++CB++P)=CA:=by rw[List.append_assoc,List.append_assoc,List.take_left' hA]
 have hTV:List.take ((m+1)*9) CV=CV:=List.take_of_length_le (by omega)
 have hDM:List.drop ((a+d)*9) (CA++CM++CB++P)=CB++P:=by rw[List.append_assoc,List.drop_left' (by simp only[List.length_append];omega)]
 have hTB:List.take (b*9) (CB++P)=CB:=List.take_left' hB
 have hTB2:List.take (b*9) CB=CB:=List.take_of_length_le (by omega)
 have hn1:a+d+b - (a+d)=b:=by omega
 have hz7:((a+(m+1):Nat):Int)+((b:Nat):Int)=((a+(m+1)+b:Nat):Int):=by omega
 have hz2:((a:Nat):Int)+((m+1:Nat):Int)=((a+(m+1):Nat):Int):=by omega
 have hn5:a+(m+1)+b - a=m+1+b:=by omega
 have hn6:a+(m+1)+b - (a+(m+1))=b:=by omega
 have hq2:min (m+1) (m+1+b)=m+1:=by omega
 refine dD.intro 1 mix names (fn:=Tryz.f49) Tryz.func49 rfl fun F hF hro W=>?_
 simp only[Tryz.ntmps49,Tryz.results49,aJ,Nat.reduceAdd,Nat.reduceSub,aX,aY,aK,aN]
 repeat' (first
  |simp -implicitDefEqProofs (disch:=first|assumption|omega) only[aA,aC,facts,if_pos,if_neg,Nat.reduceAdd,Nat.reduceEqDiff,Int.reduceLE,Option.map_none,bnd,Nat.zero_mul,Nat.sub_zero,Option.isSome_some,Nat.add_sub_cancel_left,wrap_in,cO,sJ,fB,kD,splice,oW,mW,List.length_append,Nat.min_self,AV.keysOf,List.flatMap_cons,List.flatMap_nil, *]
  |((with_reducible refine aF (fun _=>?_) (fun _=>?_))<;>try omega)
  |((with_reducible refine aO ?_);refine kG _ rfl (by decide+kernel) ?_)
  |((with_reducible refine aO ?_);refine jG (by decide+kernel) ?_)
  |((with_reducible refine dP ?_ ?_);· decide+kernel))
 rw[show List.take ((a+(m+1))*9) (CA++CV++(CM2++(CB++P)))=CA++CV from List.take_left' (by simp only[List.length_append];omega)]
 refine gW.one (cs:=CA++CV++CB) (by simp only[hget,if_true,List.append_assoc];rfl) (by simp only[List.map_append,rA,rB,rV])
theorem rep8c (CA CM CB CV P:List AV) (a d b m c:Nat) (hA:CA.length=a*9) (hM:CM.length=d*9) (hB:CB.length=b*9) (hPl:P.length=c*9 - (a+d+b)*9) (oA:CA.all AV.one=true) (oM:CM.all AV.one=true) (oB:CB.all AV.one=true) (oV:CV.all AV.one=true) (hbd:a+d+b+m+1<=1000000) (hc:a+d+b<=c) (hV:CV.length=(m+1)*9) (hd:0<d) (hb:0<b) (hcap:a+(m+1)+b<=c) (hmd:m+1<=d) (hcc:a+(m+1)+b<c) (hme: ¬m+1<d) (rA: ∀f,CA.map (AV.ren f)=CA) (rB: ∀f,CB.map (AV.ren f)=CB) (rV: ∀f,CV.map (AV.ren f)=CV):
  dD Tryz.prog gl 49 [.mcap 0 0 (a+d+b) c 9,.int .i64 (a:Nat),.int .i64 ((a+d:Nat):Int),.msl 1 0 (m+1) 9] [(0,.cells (CA++CM++CB++P)),(1,.cells CV)] 2 (.msl 0 0 (a+(m+1)+b) 9) [(0,CA++CV++CB)] 1:=by
 obtain⟨CM2,hD8,hM2⟩: ∃X,List.drop (a*9+(m+1)*9) (CA++CM++CB++P)=X++(CB++P)/\X.length=(d - (m+1))*9:=by
  refine⟨List.drop ((m+1)*9) CM,?_,by simp only[List.length_drop];omega⟩
  rw[List.append_assoc,List.append_assoc,<-hA,List.drop_length_add_append,List.drop_append_of_le_length (by omega)]
 have h8:List.drop ((a+d)*9) (CA++CV++(CM2++(CB++P)))=CB++P:=by rw[<-List.append_assoc,List.drop_left' (by simp only[List.length_append];omega)]
 have had:(((a:Nat):Int)==((a+d:Nat):Int))=false:=by simp;omega
 have hjn:(((a+d:Nat):Int)==((a+d+b:Nat):Int))=false:=by simp;omega
 have hTA:List.take (a*9) (CA++CM++CB++P)=CA:=by rw[List.append_assoc,List.append_assoc,List.take_left' hA]
 have hTV:List.take ((m+1)*9) CV=CV:=List.take_of_length_le (by omega)
 have hDM:List.drop ((a+d)*9) (CA++CM++CB++P)=CB++P:=by rw[List.append_assoc,List.drop_left' (by simp only[List.length_append];omega)]
 have hTB:List.take (b*9) (CB++P)=CB:=List.take_left' hB
 have hTB2:List.take (b*9) CB=CB:=List.take_of_length_le (by omega)
 have hn1:a+d+b - (a+d)=b:=by omega
 have hz7:((a+(m+1):Nat):Int)+((b:Nat):Int)=((a+(m+1)+b:Nat):Int):=by omega
 have hz2:((a:Nat):Int)+((m+1:Nat):Int)=((a+(m+1):Nat):Int):=by omega
 have hn5:a+(m+1)+b - a=m+1+b:=by omega
 have hn6:a+(m+1)+b - (a+(m+1))=b:=by omega
 have hq2:min (m+1) (m+1+b)=m+1:=by omega
 refine dD.intro 1 mix names (fn:=Tryz.f49) Tryz.func49 rfl fun F hF hro W=>?_
 simp only[Tryz.ntmps49,Tryz.results49,aJ,Nat.reduceAdd,Nat.reduceSub,aX,aY,aK,aN]
 repeat' (first
  |simp -implicitDefEqProofs (disch:=first|assumption|omega) only[aA,aC,facts,if_pos,if_neg,Nat.reduceAdd,Nat.reduceEqDiff,Int.reduceLE,Option.map_none,bnd,Nat.zero_mul,Nat.sub_zero,Option.isSome_some,Nat.add_sub_cancel_left,wrap_in,cO,sJ,fB,kD,splice,oW,mW,List.length_append,List.length_take,List.length_drop,Nat.min_self,AV.keysOf,List.flatMap_cons,List.flatMap_nil, *]
  |((with_reducible refine aF (fun _=>?_) (fun _=>?_))<;>try omega)
  |((with_reducible refine aO ?_);refine kG _ rfl (by decide+kernel) ?_)
  |((with_reducible refine aO ?_);refine jG (by decide+kernel) ?_)
  |((with_reducible refine dP ?_ ?_);· decide+kernel))
 rw[show List.take ((a+(m+1))*9) (CA++CV++(CM2++(CB++P)))=CA++CV from List.take_left' (by simp only[List.length_append];omega)]
 refine gW.one (cs:=CA++CV++CB) (by simp only[hget,if_true,List.append_assoc];rfl) (by simp only[List.map_append,rA,rB,rV])
theorem rep9 (CA CM CB CV P:List AV) (a d b m c:Nat) (hA:CA.length=a*9) (hM:CM.length=d*9) (hB:CB.length=b*9) (hPl:P.length=c*9 - (a+d+b)*9) (oA:CA.all AV.one=true) (oM:CM.all AV.one=true) (oB:CB.all AV.one=true) (oV:CV.all AV.one=true) (hbd:a+d+b+m+1<=1000000) (hc:a+d+b<=c) (hV:CV.length=(m+1)*9) (hd:0<d) (hb:0<b) (hcap:a+(m+1)+b<=c) (hmd: ¬m+1<=d) (rA: ∀f,CA.map (AV.ren f)=CA) (rB: ∀f,CB.map (AV.ren f)=CB) (rV: ∀f,CV.map (AV.ren f)=CV):
  dD Tryz.prog gl 49 [.mcap 0 0 (a+d+b) c 9,.int .i64 (a:Nat),.int .i64 ((a+d:Nat):Int),.msl 1 0 (m+1) 9] [(0,.cells (CA++CM++CB++P)),(1,.cells CV)] 2 (.msl 0 0 (a+(m+1)+b) 9) [(0,CA++CV++CB)] 1:=by
 skip
 have had:(((a:Nat):Int)==((a+d:Nat):Int))=false:=by simp;omega
 have hjn:(((a+d:Nat):Int)==((a+d+b:Nat):Int))=false:=by simp;omega
 have hTA:List.take (a*9) (CA++CM++CB++P)=CA:=by rw[List.append_assoc,List.append_assoc,List.take_left' hA]
 have hTV:List.take ((m+1)*9) CV=CV:=List.take_of_length_le (by omega)
 have hDM:List.drop ((a+d)*9) (CA++CM++CB++P)=CB++P:=by rw[List.append_assoc,List.drop_left' (by simp only[List.length_append];omega)]
 have hTB:List.take (b*9) (CB++P)=CB:=List.take_left' hB
 have hTB2:List.take (b*9) CB=CB:=List.take_of_length_le (by omega)
 have hn1:a+d+b - (a+d)=b:=by omega
 have hz7:((a+(m+1):Nat):Int)+((b:Nat):Int)=((a+(m+1)+b:Nat):Int):=by omega
 have hz2:((a:Nat):Int)+((m+1:Nat):Int)=((a+(m+1):Nat):Int):=by omega
 have hn5:a+(m+1)+b - a=m+1+b:=by omega
 have hn6:a+(m+1)+b - (a+(m+1))=b:=by omega
 have hq2:min (m+1) (m+1+b)=m+1:=by omega
 refine dD.intro 1 mix names (fn:=Tryz.f49) Tryz.func49 rfl fun F hF hro W=>?_
 simp only[Tryz.ntmps49,Tryz.results49,aJ,Nat.reduceAdd,Nat.reduceSub,aX,aY,aK,aN]
 repeat' (first
  |simp -implicitDefEqProofs (disch:=first|assumption|omega) only[aA,aC,facts,if_pos,if_neg,Nat.reduceAdd,Nat.reduceEqDiff,Int.reduceLE,Option.map_none,bnd,Nat.zero_mul,Nat.sub_zero,Option.isSome_some,Nat.add_sub_cancel_left,wrap_in,cO,sJ,fB,kD,splice,oW,List.length_append,List.length_take,List.length_drop,Nat.min_self,AV.keysOf,List.flatMap_cons,List.flatMap_nil, *]
  |((with_reducible refine aF (fun _=>?_) (fun _=>?_))<;>try omega)
  |((with_reducible refine aO ?_);refine kG _ rfl (by decide+kernel) ?_)
  |((with_reducible refine aO ?_);refine jG (by decide+kernel) ?_)
  |((with_reducible refine dP ?_ ?_);· decide+kernel)
  |((with_reducible refine aS 84 ?_);refine Lm (yU (fn:=Tryz.f84) (t:=28) (r:=4) (e:=50) (k:=9) Tryz.func84 (by kernel_rfl) (by kernel_rfl) (by kernel_rfl) (by kernel_rfl) Tryz.underlying28 sz50 (q1:=0) (q2:=1) (cs1:=CA++CM++CB++P) (cs2:=CV) rfl rfl (by decide) (by omega) Fp Ld ?_)))
 obtain⟨Z,hZ1,hZ2⟩: ∃Z,List.take ((a+(m+1))*9) (CA++CM++CB++P)=CA++Z/\Z.length=(m+1)*9:=by
  refine⟨List.take ((m+1)*9) (CM++(CB++P)),?_,by simp only[List.length_take,List.length_append];omega⟩
  rw[List.append_assoc,List.append_assoc,show(a+(m+1))*9=CA.length+(m+1)*9 by omega,List.take_length_add_append]
 rw[hZ1]
 generalize List.drop ((a+(m+1))*9+b*9) (CA++CM++CB++P)=D
 rw[show List.take (a*9) (CA++Z++CB++D)=CA by rw[List.append_assoc,List.append_assoc,List.take_left' hA],show List.drop (a*9+(m+1)*9) (CA++Z++CB++D)=CB++D by rw[List.append_assoc,List.drop_left' (by simp only[List.length_append];omega)]]
 exact gW.one (cs:=CA++CV++CB) (rest:=D) (by simp [hget]) (by rw[List.map_append,List.map_append,rA,rB,rV])
theorem aBj (CA CM CB CV:List AV) (a d b m:Nat) (hA:CA.length=a*9) (hM:CM.length=d*9) (hB:CB.length=b*9) (hV:CV.length=m*9) (oA:CA.all AV.one=true) (oM:CM.all AV.one=true) (oB:CB.all AV.one=true) (oV:CV.all AV.one=true) (rA: ∀f,CA.map (AV.ren f)=CA) (rB: ∀f,CB.map (AV.ren f)=CB) (rV: ∀f,CV.map (AV.ren f)=CV)
  (hbd:a+d+b+m+1<=1000000):dD Tryz.prog gl 49 [.msl 0 0 (a+d+b) 9,.int .i64 (a:Nat),.int .i64 ((a+d:Nat):Int),iR 1 9 m] (hC ((0,CA++CM++CB)::jH 1 CV m)) 2 (.msl 0 0 (a+m+b) 9) [(0,CA++CV++CB)] 1:=by
 rcases Nat.eq_zero_or_pos d with hd|hd
 ·subst hd
  have hCM:CM=[]:=List.eq_nil_of_length_eq_zero (by omega)
  subst hCM
  have ins:=aDx CA CB CV a b m hA hB hV oA oB oV rA rB rV (by omega)
  simp only[Nat.add_zero,List.append_nil]
  exact rep1 CA CB CV a b m (by omega) (fun f=>by rw[List.map_append,rA,rB]) rV (fun f=>by rw[List.map_append,List.map_append,rA,rB,rV]) ins
 ·refine dD.cap (cs:=CA++CM++CB) (by simp [hget,hC]) fun c hc=>?_
  rw[aK,yS]
  have hPl:(List.replicate (c*9 - (CA++CM++CB).length) AV.ud).length=c*9 - (a+d+b)*9:=by simp [hA,hM,hB];omega
  rcases Nat.eq_zero_or_pos b with hb|hb
  ·cases m with
   |zero=>
    have:=rep2 CA CM CB CV _ a d b 0 c hA hM hB hPl oA oM oB oV (by omega) hc (by omega) hd hb rA rB rV
    exact this
   | succ m=>
    by_cases hcap:a+(m+1)<=c
    ·by_cases hmd:m+1<d
     ·exact rep3 CA CM CB CV _ a d b m c hA hM hB hPl oA oM oB oV (by omega) hc hV hd hb hcap hmd rA rB rV
     ·exact rep4 CA CM CB CV _ a d b m c hA hM hB hPl oA oM oB oV (by omega) hc hV hd hb hcap hmd rA rB rV
    ·exact rep5 CA CM CB CV _ a d b m c hA hM hB hPl oA oM oB oV (by omega) hc hV hd hb hcap rA rB rV
  ·cases m with
   |zero=>exact rep7 CA CM CB CV _ a d b 0 c hA hM hB hPl oA oM oB oV (by omega) hc (by omega) hd hb rA rB rV
   | succ m=>
    by_cases hcap:a+(m+1)+b<=c
    ·by_cases hmd:m+1<=d
     ·by_cases hcc:a+(m+1)+b<c
      ·by_cases hme:m+1<d
       ·exact rep8a CA CM CB CV _ a d b m c hA hM hB hPl oA oM oB oV (by omega) hc hV hd hb hcap hmd hcc hme rA rB rV
       ·exact rep8c CA CM CB CV _ a d b m c hA hM hB hPl oA oM oB oV (by omega) hc hV hd hb hcap hmd hcc hme rA rB rV
      ·exact rep8b CA CM CB CV _ a d b m c hA hM hB hPl oA oM oB oV (by omega) hc hV hd hb hcap hmd hcc rA rB rV
     ·exact rep9 CA CM CB CV _ a d b m c hA hM hB hPl oA oM oB oV (by omega) hc hV hd hb hcap hmd rA rB rV
    ·exact rep6 CA CM CB CV _ a d b m c hA hM hB hPl oA oM oB oV (by omega) hc hV hd hb hcap rA rB rV
theorem aGs (n many:Int):PC Tryz.prog gl 46 [.int .i64 n,.int .i64 many] (fun v=>v= .bool (decide (0<=n/\n<many))):=by
 (refine PC.introZ 1 mix (fn:=Tryz.f46) Tryz.func46 rfl (names 46 _ Tryz.func46) fun F hF hro W=>?_;simp only[Tryz.ntmps46,Tryz.results46,aJ,Nat.reduceAdd,Nat.reduceSub])
 repeat' (first
  |simp -implicitDefEqProofs (disch:=first|assumption|omega) only[aA,aC,Nat.reduceAdd, *]
  |((with_reducible refine jO (fun _=>?_) (fun _=>?_))<;>try omega))
 all_goals simp_all
theorem aJd (a b c:Int) (ha: -9223372036854775808<=a/\a<=9223372036854775807) (hc:0<=c/\c<=1000000):PC Tryz.prog gl 47 [.int .i64 a,.int .i64 b,.int .i64 c] (fun v=>v= .bool (decide (0<=a/\0<=b/\a<=c/\b<=c - a))):=by
 by_cases h:0<=a/\a<=c
 ·have hw:IntKind.i64.wrap (c - a)=c - a:=wrap_in (by omega)
  (refine PC.introZ 1 mix (fn:=Tryz.f47) Tryz.func47 rfl (names 47 _ Tryz.func47) fun F hF hro W=>?_;simp only[Tryz.ntmps47,Tryz.results47,aJ,Nat.reduceAdd,Nat.reduceSub])
  repeat' (first
  |simp -implicitDefEqProofs (disch:=first|assumption|omega) only[aA,aC,Nat.reduceAdd, *]
  |((with_reducible refine jO (fun _=>?_) (fun _=>?_))<;>try omega))
  all_goals simp_all
 ·(refine PC.introZ 1 mix (fn:=Tryz.f47) Tryz.func47 rfl (names 47 _ Tryz.func47) fun F hF hro W=>?_;simp only[Tryz.ntmps47,Tryz.results47,aJ,Nat.reduceAdd,Nat.reduceSub])
  repeat' (first
  |simp -implicitDefEqProofs (disch:=first|assumption|omega) only[aA,aC,Nat.reduceAdd, *]
  |((with_reducible refine jO (fun _=>?_) (fun _=>?_))<;>try omega))
  all_goals simp_all
  all_goals omega
end Go.Proofs.Pv
