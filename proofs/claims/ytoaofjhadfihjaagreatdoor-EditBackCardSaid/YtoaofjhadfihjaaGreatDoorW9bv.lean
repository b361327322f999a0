/-
  Chapter 9's law EditBack: from its contract to the given statement.
  Conditions: its contract on the abstract machine.
-/
import Derived.Test.YtoaofjhadfihjaaGreatDoorW9br
import Derived.Test.YtoaofjhadfihjaaGreatDoorC12
import Derived.Test.YtoaofjhadfihjaaGreatDoorK14
import Derived.Test.YtoaofjhadfihjaaGreatDoorC14b
set_option linter.unusedVariables false
set_option linter.unusedSimpArgs false
set_option maxRecDepth 100000
set_option maxHeartbeats 16000000
namespace Go.Proofs.Pv
open Go Go.Proofs Go.ChangeShapes Go.WideShapes Go.ChangeAt Go.RowKit
open Go.Proofs.YtoaofjhadfihjaaGreatDoor
theorem aTg (os:Os) (started:os.Started) (H:Type) (enc:TypeId×Value->H):
  ReturnsInHanded {} Tryz.checked os 3 .any (fun w args=>(Rows.editBackSpec.pre enc Tryz.prog Tryz.f3 [] false w args/\laidMetH Tryz.prog laid w)/\sizedMet enc Tryz.prog Tryz.f3 (OpenSpec.ofChange Rows.editBackSpec) false w args)
   (Rows.editBackSpec.post enc Tryz.prog Tryz.f3 false true false false):=by
 refine returnsInHanded_of_change_and (C:=Tryz.checked) (X:=fun w _=>laidMetH Tryz.prog laid w) (fun _ _ _ hh h=>h.of_heap hh) own started (by kernel_rfl) Tryz.func3
  (ChangeSpec.witness_shaped (enc:=enc) (C:=Tryz.checked) (os:=os) (X:=fun w _=>laidMetH Tryz.prog laid w) false (World.laidAll Tryz.prog os laid) #[.agg #[.string ByteArray.empty,.slice Option.none 0 0,.slice Option.none 0 0],.agg #[.int .i64 0,.int .i64 0,.int .i64 0,.int .i64 0,.int .i64 0,.int .i64 0,.slice Option.none 0 0,.slice Option.none 0 0,.slice Option.none 0 0,.slice Option.none 0 0,.int .i64 0,.int .i64 0,.string ByteArray.empty]] 8 (World.laidAll_os _ _ _)
   (World.shaped_of_ZipB (by kernel_rfl) (by kernel_rfl)) (by kernel_rfl) (by kernel_rfl) (by kernel_rfl)
   (by rw[MakeChecks.laidMetH_plain _ _ _ (by kernel_rfl)];exact laidMet_laidAll _ (by kernel_rfl) (by kernel_rfl))) ?_
 intro W base args ds gs before hval0 hW _ _ hL _
 have hval: ∀(j:Nat) t v,Tryz.f3.params[j]?=some t->args[j]?=some v->Value.okWide Tryz.prog W .any base t v:=hval0
 have hW':=hW
 obtain⟨p,q,hA0,hV,rfl,_,_⟩:=hW
 have hA:DataW.TrodAll enc Tryz.prog W 0 (fun _=>true) true Tryz.f3.params.toList args.toList ds p:=hA0
 rw[Tryz.params3] at hA hval
 obtain⟨v0,vs0,d0,ds0,p0,q0,hargs,rfl,rfl,h0,r0⟩:=trodAll_cons hA
 obtain⟨v1,vs1,d1,ds1,p1,q1,rfl,rfl,rfl,h1,r1⟩:=trodAll_cons r0
 obtain⟨rfl,rfl,rfl⟩:=trodAll_nil r1
 obtain rfl:args= #[v0,v1]:=by cases args;simp_all
 obtain⟨rfl,rfl⟩:=trodVars_none hV
 have k0:=h0
 have lt0: ∀x∈p0,x.block<W.heap.size:=by obtain⟨m,hm⟩:=k0;exact DataW.trod_lt m _ _ _ hm
 obtain⟨cs0,rfl⟩:=aDc Tryz.underlying25 (hval 0 25 v0 rfl rfl)
 obtain⟨m0,hm0⟩:=h0
 obtain⟨e0,o0⟩:=Ol 13 25 m0 _ _ (by kernel_rfl) hm0
 have k1:=h1
 have lt1: ∀x∈p1,x.block<W.heap.size:=by obtain⟨m,hm⟩:=k1;exact DataW.trod_lt m _ _ _ hm
 obtain⟨cs1,rfl⟩:=aDc Tryz.underlying34 (hval 1 34 v1 rfl rfl)
 obtain⟨m1,hm1⟩:=h1
 obtain⟨e1,o1⟩:=Ol 13 34 m1 _ _ (by kernel_rfl) hm1
 obtain⟨s0,hs0,ts0⟩:=aMp (d:=2) o0
 have a0:=aFz e0
 rw[hs0] at a0
 obtain⟨s1,hs1,ts1,tb1⟩:=aT6 (d:=3) o1
 have a1:=aFz e1
 rw[hs1] at a1
 have c:=(aRe s0 s1 aMa ts0 ts1 tb1).law (W:=W) (vs:= #[.agg cs0,.agg cs1]) (bP.append a0 a1) (of_laid hL)
 refine c.mono fun e W' ⟨he,bel⟩=>?_
 subst he
 exact⟨_,rfl,_,_,_,[],_,[],hW',trodAll_mk1 (shut_bool Tryz.underlying4 _),(trodAll_cons_mk (Below.trod laidOut (by kernel_rfl) (of_decide_eq_true (by kernel_rfl)) k0 bel lt0) (trodAll_cons_mk (Below.trod laidOut (by kernel_rfl) (of_decide_eq_true (by kernel_rfl)) k1 bel lt1) trodAll_mk0)),rfl,bel.frame _,fun h=>by cases h⟩
theorem rowb:Rows.EditBackSaid:=
 OpenClaim.holds_of_wide 3 Tryz.f3 rfl rfl rfl rfl rfl rfl rfl ⟨rfl,rfl,rfl,rfl,rfl⟩ rfl rfl rfl rfl rfl aN3 Tryz.func3 aN4 aQx aQy
  (fun os started H enc _=>aTg os started H enc)
end Go.Proofs.Pv
