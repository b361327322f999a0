/-
  Chapter 9's law EditTitle: from its contract to the given statement.
  Conditions: its contract on the abstract machine.
-/
import Derived.Test.YtbeclcideapopaaGreatDoorW9tr
import Derived.Test.YtbeclcideapopaaGreatDoorC12
import Derived.Test.YtbeclcideapopaaGreatDoorK14
import Derived.Test.YtbeclcideapopaaGreatDoorC14t
set_option linter.unusedVariables false
set_option linter.unusedSimpArgs false
set_option maxRecDepth 100000
set_option maxHeartbeats 16000000
namespace Go.Proofs.Pv
open Go Go.Proofs Go.ChangeShapes Go.WideShapes Go.ChangeAt Go.RowKit
open Go.Proofs.YtbeclcideapopaaGreatDoor
theorem aTk (os:Os) (started:os.Started) (H:Type) (enc:TypeId×Value->H):
  ReturnsInHanded {} Tryz.checked os 3 .any (fun w args=>(Rows.editTitleSpec.pre enc Tryz.prog Tryz.f3 [] false w args/\laidMetH Tryz.prog laid w)/\sizedMet enc Tryz.prog Tryz.f3 (OpenSpec.ofChange Rows.editTitleSpec) false w args)
   (Rows.editTitleSpec.post enc Tryz.prog Tryz.f3 false true false false):=by
 refine returnsInHanded_of_change_and (C:=Tryz.checked) (X:=fun w _=>laidMetH Tryz.prog laid w) (fun _ _ _ hh h=>h.of_heap hh) own started (by kernel_rfl) Tryz.func3
  (ChangeSpec.witness_shaped (enc:=enc) (C:=Tryz.checked) (os:=os) (X:=fun w _=>laidMetH Tryz.prog laid w) false (World.laidAll Tryz.prog os laid) #[.agg #[.string ByteArray.empty,.slice Option.none 0 0,.slice Option.none 0 0],.agg #[.int .i64 0,.int .i64 0,.int .i64 0,.int .i64 0,.int .i64 0,.int .i64 0,.slice Option.none 0 0,.slice Option.none 0 0,.slice Option.none 0 0,.slice Option.none 0 0,.int .i64 0,.int .i64 0,.string ByteArray.empty],.string ByteArray.empty] 8 (World.laidAll_os _ _ _)
   (World.shaped_of_ZipB (by kernel_rfl) (by kernel_rfl)) (by kernel_rfl) (by kernel_rfl) (by kernel_rfl)
   (by rw[MakeChecks.laidMetH_plain _ _ _ (by kernel_rfl)];exact laidMet_laidAll _ (by kernel_rfl) (by kernel_rfl))) ?_
 intro W base args ds gs before hval0 hW _ _ hL _
 have hval: ∀(j:Nat) t v,Tryz.f3.params[j]?=some t->args[j]?=some v->Value.okWide Tryz.prog W .any base t v:=hval0
 have hW':=hW
 obtain⟨p,q,hA0,hV,rfl,_,_⟩:=hW
 have hA:DataW.TrodAll enc Tryz.prog W 0 (fun _=>true) true Tryz.f3.params.toList args.toList ds p:=hA0
 rw[Tryz.params3] at hA hval
 obtain⟨v0,vs0,d0,ds0,p0,q0,hargs,rfl,rfl,h0,r0⟩:=trodAll_cons hA
 obtain⟨v1,vs1,d1,ds1,p1,q1,rfl,rfl,rfl,h1,r1⟩:=trodAll_cons r0
 obtain⟨v2,vs2,d2,ds2,p2,q2,rfl,rfl,rfl,h2,r2⟩:=trodAll_cons r1
 obtain⟨rfl,rfl,rfl⟩:=trodAll_nil r2
 obtain rfl:args= #[v0,v1,v2]:=by cases args;simp_all
 obtain⟨rfl,rfl⟩:=trodVars_none hV
 have k0:=h0
 have lt0: ∀x∈p0,x.block<W.heap.size:=by obtain⟨m,hm⟩:=k0;exact DataW.trod_lt m _ _ _ hm
 obtain⟨cs0,rfl⟩:=aCr Tryz.underlying25 (hval 0 25 v0 rfl rfl)
 obtain⟨m0,hm0⟩:=h0
 obtain⟨e0,o0⟩:=Fj 13 25 m0 _ _ (by kernel_rfl) hm0
 have k1:=h1
 have lt1: ∀x∈p1,x.block<W.heap.size:=by obtain⟨m,hm⟩:=k1;exact DataW.trod_lt m _ _ _ hm
 obtain⟨cs1,rfl⟩:=aCr Tryz.underlying34 (hval 1 34 v1 rfl rfl)
 obtain⟨m1,hm1⟩:=h1
 obtain⟨e1,o1⟩:=Fj 13 34 m1 _ _ (by kernel_rfl) hm1
 have k2:=h2
 have lt2: ∀x∈p2,x.block<W.heap.size:=by obtain⟨m,hm⟩:=k2;exact DataW.trod_lt m _ _ _ hm
 obtain⟨m2,hm2⟩:=h2
 obtain⟨e2,o2⟩:=Fj 13 9 m2 _ _ (by kernel_rfl) hm2
 obtain⟨s0,hs0,ts0⟩:=aL5 (d:=2) o0
 have a0:=aFg e0
 rw[hs0] at a0
 obtain⟨s1,hs1,ts1,tb1⟩:=aTd (d:=3) o1
 have a1:=aFg e1
 rw[hs1] at a1
 obtain⟨s2,hs2⟩:=Ko (d:=12) o2
 have a2:=e2
 rw[hs2,aKp Tryz.underlying9 (hval 2 9 v2 rfl rfl)] at a2
 have c:=(aOt s0 s1 s2 aLq ts0 ts1 tb1).law (W:=W) (vs:= #[.agg cs0,.agg cs1,v2]) (bM.append (bM.append a0 a1) a2) (of_laid hL)
 refine c.mono fun e W' ⟨he,bel⟩=>?_
 subst he
 exact⟨_,rfl,_,_,_,[],_,[],hW',trodAll_mk1 (shut_bool Tryz.underlying4 _),(trodAll_cons_mk (Below.trod laidOut (by kernel_rfl) (of_decide_eq_true (by kernel_rfl)) k0 bel lt0) (trodAll_cons_mk (Below.trod laidOut (by kernel_rfl) (of_decide_eq_true (by kernel_rfl)) k1 bel lt1) (trodAll_cons_mk (Below.trod laidOut (by kernel_rfl) (of_decide_eq_true (by kernel_rfl)) k2 bel lt2) trodAll_mk0))),rfl,bel.frame _,fun h=>by cases h⟩
theorem rowt:Rows.EditTitleSaid:=
 OpenClaim.holds_of_wide 3 Tryz.f3 rfl rfl rfl rfl rfl rfl rfl ⟨rfl,rfl,rfl,rfl,rfl⟩ rfl rfl rfl rfl rfl aM6 Tryz.func3 aM7 aPv aPw
  (fun os started H enc _=>aTk os started H enc)
end Go.Proofs.Pv
