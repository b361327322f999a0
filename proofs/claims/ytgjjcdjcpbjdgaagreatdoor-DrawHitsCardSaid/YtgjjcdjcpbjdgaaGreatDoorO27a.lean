/-
  Chapter 27: what the program's types are, as the abstract machine asks them.
  Conditions: none.
-/
import Derived.Test.YtgjjcdjcpbjdgaaGreatDoorPvAA
import Derived.Test.YtgjjcdjcpbjdgaaGreatDoorK27base
namespace Go.Proofs.Pv
set_option linter.unusedVariables false
set_option linter.unusedSimpArgs false
open Go Go.Proofs
theorem sz0 : sz Tryz.prog 0 = some 1 := by kernel_rfl
theorem ag0 : ag Tryz.prog 0 = false := by kernel_rfl
theorem byt0 : byt Tryz.prog 0 = some 0 := by kernel_rfl
theorem sz3 : sz Tryz.prog 3 = some 1 := by kernel_rfl
theorem ag3 : ag Tryz.prog 3 = false := by kernel_rfl
theorem byt3 : byt Tryz.prog 3 = some 8 := by kernel_rfl
theorem zro3 : zro Tryz.prog 3 = some [(.int .i64 0)] := by kernel_rfl
theorem zeroRow3 : zeroRow Tryz.prog 3 = some (1, (.int .i64 0)) := by kernel_rfl
theorem sz4 : sz Tryz.prog 4 = some 1 := by kernel_rfl
theorem ag4 : ag Tryz.prog 4 = false := by kernel_rfl
theorem byt4 : byt Tryz.prog 4 = some 1 := by kernel_rfl
theorem zro4 : zro Tryz.prog 4 = some [(.bool false)] := by kernel_rfl
theorem zeroRow4 : zeroRow Tryz.prog 4 = some (1, (.bool false)) := by kernel_rfl
theorem sz22 : sz Tryz.prog 22 = some 1 := by kernel_rfl
theorem ag22 : ag Tryz.prog 22 = false := by kernel_rfl
theorem byt22 : byt Tryz.prog 22 = some 24 := by kernel_rfl
theorem zro22 : zro Tryz.prog 22 = some [(.sl 12 [] .full)] := by kernel_rfl
theorem zeroRow22 : zeroRow Tryz.prog 22 = some (1, (.sl 12 [] .full)) := by kernel_rfl
theorem elt22 : elt Tryz.prog 22 = some 39 := by kernel_rfl
theorem kOf22 : kOf Tryz.prog 22 = 12 := by kernel_rfl
theorem ptOf22_0 : ptOf Tryz.prog 22 0 = 39 := by kernel_rfl
theorem sz25 : sz Tryz.prog 25 = some 4 := by kernel_rfl
theorem ag25 : ag Tryz.prog 25 = true := by kernel_rfl
theorem byt25 : byt Tryz.prog 25 = some 32 := by kernel_rfl
theorem zro25 : zro Tryz.prog 25 = some [(.int .i64 0), (.int .i64 0), (.int .i64 0), (.int .i64 0)] := by kernel_rfl
theorem zeroRow25 : zeroRow Tryz.prog 25 = some (4, (.agg [(.int .i64 0), (.int .i64 0), (.int .i64 0), (.int .i64 0)])) := by kernel_rfl
theorem fld25_0 : fld Tryz.prog 25 0 = some (0, 1, 3) := by kernel_rfl
theorem ptOf25_0 : ptOf Tryz.prog 25 0 = 3 := by kernel_rfl
theorem fld25_1 : fld Tryz.prog 25 1 = some (1, 1, 3) := by kernel_rfl
theorem ptOf25_1 : ptOf Tryz.prog 25 1 = 3 := by kernel_rfl
theorem fld25_2 : fld Tryz.prog 25 2 = some (2, 1, 3) := by kernel_rfl
theorem ptOf25_2 : ptOf Tryz.prog 25 2 = 3 := by kernel_rfl
theorem fld25_3 : fld Tryz.prog 25 3 = some (3, 1, 3) := by kernel_rfl
theorem ptOf25_3 : ptOf Tryz.prog 25 3 = 3 := by kernel_rfl
theorem places25 : places Tryz.prog 25 = some [(0, 1), (1, 1), (2, 1), (3, 1)] := by kernel_rfl
theorem aeq25 (a0 : Int) (a1 : Int) (a2 : Int) (a3 : Int) (b0 : Int) (b1 : Int) (b2 : Int) (b3 : Int) : aeq Tryz.prog 9 25 (.agg [.int .i64 a0, .int .i64 a1, .int .i64 a2, .int .i64 a3]) (.agg [.int .i64 b0, .int .i64 b1, .int .i64 b2, .int .i64 b3]) = some (((a0 == b0) && ((a1 == b1) && ((a2 == b2) && ((a3 == b3) && true))))) := by kernel_rfl
theorem sz39 : sz Tryz.prog 39 = some 12 := by kernel_rfl
theorem ag39 : ag Tryz.prog 39 = true := by kernel_rfl
theorem byt39 : byt Tryz.prog 39 = some 104 := by kernel_rfl
theorem zro39 : zro Tryz.prog 39 = some [(.int .i64 0), (.int .i64 0), (.int .i64 0), (.int .i64 0), (.int .i64 0), (.int .i64 0), (.int .i64 0), (.int .i64 0), (.int .i64 0), (.int .i64 0), (.int .i64 0), (.str (ByteArray.mk #[]))] := by kernel_rfl
theorem zeroRow39 : zeroRow Tryz.prog 39 = some (12, (.agg [(.int .i64 0), (.int .i64 0), (.int .i64 0), (.int .i64 0), (.int .i64 0), (.int .i64 0), (.int .i64 0), (.int .i64 0), (.int .i64 0), (.int .i64 0), (.int .i64 0), (.str (ByteArray.mk #[]))])) := by kernel_rfl
theorem fld39_0 : fld Tryz.prog 39 0 = some (0, 1, 3) := by kernel_rfl
theorem ptOf39_0 : ptOf Tryz.prog 39 0 = 3 := by kernel_rfl
theorem fld39_1 : fld Tryz.prog 39 1 = some (1, 1, 3) := by kernel_rfl
theorem ptOf39_1 : ptOf Tryz.prog 39 1 = 3 := by kernel_rfl
theorem fld39_2 : fld Tryz.prog 39 2 = some (2, 1, 3) := by kernel_rfl
theorem ptOf39_2 : ptOf Tryz.prog 39 2 = 3 := by kernel_rfl
theorem fld39_3 : fld Tryz.prog 39 3 = some (3, 1, 3) := by kernel_rfl
theorem ptOf39_3 : ptOf Tryz.prog 39 3 = 3 := by kernel_rfl
theorem fld39_4 : fld Tryz.prog 39 4 = some (4, 1, 3) := by kernel_rfl
theorem ptOf39_4 : ptOf Tryz.prog 39 4 = 3 := by kernel_rfl
theorem fld39_5 : fld Tryz.prog 39 5 = some (5, 1, 3) := by kernel_rfl
theorem ptOf39_5 : ptOf Tryz.prog 39 5 = 3 := by kernel_rfl
theorem fld39_6 : fld Tryz.prog 39 6 = some (6, 4, 25) := by kernel_rfl
theorem ptOf39_6 : ptOf Tryz.prog 39 6 = 25 := by kernel_rfl
theorem fld39_7 : fld Tryz.prog 39 7 = some (10, 1, 3) := by kernel_rfl
theorem ptOf39_7 : ptOf Tryz.prog 39 7 = 3 := by kernel_rfl
theorem fld39_8 : fld Tryz.prog 39 8 = some (11, 1, 9) := by kernel_rfl
theorem ptOf39_8 : ptOf Tryz.prog 39 8 = 9 := by kernel_rfl
theorem places39 : places Tryz.prog 39 = some [(0, 1), (1, 1), (2, 1), (3, 1), (4, 1), (5, 1), (6, 4), (10, 1), (11, 1)] := by kernel_rfl
theorem aeq39 (a0 : Int) (a1 : Int) (a2 : Int) (a3 : Int) (a4 : Int) (a5 : Int) (a6 : Int) (a7 : Int) (a8 : Int) (a9 : Int) (a10 : Int) (a11 : ByteArray) (b0 : Int) (b1 : Int) (b2 : Int) (b3 : Int) (b4 : Int) (b5 : Int) (b6 : Int) (b7 : Int) (b8 : Int) (b9 : Int) (b10 : Int) (b11 : ByteArray) : aeq Tryz.prog 9 39 (.agg [.int .i64 a0, .int .i64 a1, .int .i64 a2, .int .i64 a3, .int .i64 a4, .int .i64 a5, .int .i64 a6, .int .i64 a7, .int .i64 a8, .int .i64 a9, .int .i64 a10, .str a11]) (.agg [.int .i64 b0, .int .i64 b1, .int .i64 b2, .int .i64 b3, .int .i64 b4, .int .i64 b5, .int .i64 b6, .int .i64 b7, .int .i64 b8, .int .i64 b9, .int .i64 b10, .str b11]) = some (((a0 == b0) && ((a1 == b1) && ((a2 == b2) && ((a3 == b3) && ((a4 == b4) && ((a5 == b5) && (((a6 == b6) && ((a7 == b7) && ((a8 == b8) && ((a9 == b9) && true)))) && ((a10 == b10) && ((a11 == b11) && true)))))))))) := by kernel_rfl
theorem sz40 : sz Tryz.prog 40 = some 1 := by kernel_rfl
theorem ag40 : ag Tryz.prog 40 = false := by kernel_rfl
theorem byt40 : byt Tryz.prog 40 = some 24 := by kernel_rfl
theorem zro40 : zro Tryz.prog 40 = some [(.sl 1 [] .full)] := by kernel_rfl
theorem zeroRow40 : zeroRow Tryz.prog 40 = some (1, (.sl 1 [] .full)) := by kernel_rfl
theorem elt40 : elt Tryz.prog 40 = some 3 := by kernel_rfl
theorem kOf40 : kOf Tryz.prog 40 = 1 := by kernel_rfl
theorem ptOf40_0 : ptOf Tryz.prog 40 0 = 3 := by kernel_rfl
theorem sz41 : sz Tryz.prog 41 = some 1 := by kernel_rfl
theorem ag41 : ag Tryz.prog 41 = false := by kernel_rfl
theorem byt41 : byt Tryz.prog 41 = some 24 := by kernel_rfl
theorem zro41 : zro Tryz.prog 41 = some [(.sl 1 [] .full)] := by kernel_rfl
theorem zeroRow41 : zeroRow Tryz.prog 41 = some (1, (.sl 1 [] .full)) := by kernel_rfl
theorem elt41 : elt Tryz.prog 41 = some 40 := by kernel_rfl
theorem kOf41 : kOf Tryz.prog 41 = 1 := by kernel_rfl
theorem ptOf41_0 : ptOf Tryz.prog 41 0 = 40 := by kernel_rfl
theorem sz45 : sz Tryz.prog 45 = some 1 := by kernel_rfl
theorem ag45 : ag Tryz.prog 45 = false := by kernel_rfl
theorem byt45 : byt Tryz.prog 45 = some 8 := by kernel_rfl
theorem zro45 : zro Tryz.prog 45 = some [.nilf] := by kernel_rfl
theorem zeroRow45 : zeroRow Tryz.prog 45 = some (1, .nilf) := by kernel_rfl
theorem mutOf22 : mutOf gl 22 = .full := rfl
theorem mutOf40 : mutOf gl 40 = .full := rfl
theorem mutOf41 : mutOf gl 41 = .full := rfl
/-- All of them. -/
theorem facts : type_of% (And.intro (And.intro (And.intro (And.intro (And.intro (And.intro @sz0 @ag0) (And.intro @byt0 (And.intro @sz3 @ag3))) (And.intro (And.intro @byt3 (And.intro @zro3 @zeroRow3)) (And.intro @sz4 (And.intro @ag4 @byt4)))) (And.intro (And.intro (And.intro @zro4 (And.intro @zeroRow4 @sz22)) (And.intro @ag22 (And.intro @byt22 @zro22))) (And.intro (And.intro @zeroRow22 (And.intro @elt22 @kOf22)) (And.intro @ptOf22_0 (And.intro @sz25 @ag25))))) (And.intro (And.intro (And.intro (And.intro @byt25 (And.intro @zro25 @zeroRow25)) (And.intro @fld25_0 (And.intro @ptOf25_0 @fld25_1))) (And.intro (And.intro @ptOf25_1 (And.intro @fld25_2 @ptOf25_2)) (And.intro @fld25_3 (And.intro @ptOf25_3 @places25)))) (And.intro (And.intro (And.intro @aeq25 (And.intro @sz39 @ag39)) (And.intro @byt39 (And.intro @zro39 @zeroRow39))) (And.intro (And.intro @fld39_0 (And.intro @ptOf39_0 @fld39_1)) (And.intro @ptOf39_1 (And.intro @fld39_2 @ptOf39_2)))))) (And.intro (And.intro (And.intro (And.intro (And.intro @fld39_3 @ptOf39_3) (And.intro @fld39_4 (And.intro @ptOf39_4 @fld39_5))) (And.intro (And.intro @ptOf39_5 (And.intro @fld39_6 @ptOf39_6)) (And.intro @fld39_7 (And.intro @ptOf39_7 @fld39_8)))) (And.intro (And.intro (And.intro @ptOf39_8 (And.intro @places39 @aeq39)) (And.intro @sz40 (And.intro @ag40 @byt40))) (And.intro (And.intro @zro40 (And.intro @zeroRow40 @elt40)) (And.intro @kOf40 (And.intro @ptOf40_0 @sz41))))) (And.intro (And.intro (And.intro (And.intro @ag41 (And.intro @byt41 @zro41)) (And.intro @zeroRow41 (And.intro @elt41 @kOf41))) (And.intro (And.intro @ptOf41_0 (And.intro @sz45 @ag45)) (And.intro @byt45 (And.intro @zro45 @zeroRow45)))) (And.intro (And.intro (And.intro @Tryz.underlying3 (And.intro @Tryz.underlying4 @Tryz.underlying22)) (And.intro @Tryz.underlying25 (And.intro @Tryz.underlying39 @Tryz.underlying40))) (And.intro (And.intro @Tryz.underlying41 (And.intro @Tryz.underlying45 @Tryz.eqGuardType25)) (And.intro @mutOf22 (And.intro @mutOf40 @mutOf41))))))) :=
  (And.intro (And.intro (And.intro (And.intro (And.intro (And.intro @sz0 @ag0) (And.intro @byt0 (And.intro @sz3 @ag3))) (And.intro (And.intro @byt3 (And.intro @zro3 @zeroRow3)) (And.intro @sz4 (And.intro @ag4 @byt4)))) (And.intro (And.intro (And.intro @zro4 (And.intro @zeroRow4 @sz22)) (And.intro @ag22 (And.intro @byt22 @zro22))) (And.intro (And.intro @zeroRow22 (And.intro @elt22 @kOf22)) (And.intro @ptOf22_0 (And.intro @sz25 @ag25))))) (And.intro (And.intro (And.intro (And.intro @byt25 (And.intro @zro25 @zeroRow25)) (And.intro @fld25_0 (And.intro @ptOf25_0 @fld25_1))) (And.intro (And.intro @ptOf25_1 (And.intro @fld25_2 @ptOf25_2)) (And.intro @fld25_3 (And.intro @ptOf25_3 @places25)))) (And.intro (And.intro (And.intro @aeq25 (And.intro @sz39 @ag39)) (And.intro @byt39 (And.intro @zro39 @zeroRow39))) (And.intro (And.intro @fld39_0 (And.intro @ptOf39_0 @fld39_1)) (And.intro @ptOf39_1 (And.intro @fld39_2 @ptOf39_2)))))) (And.intro (And.intro (And.intro (And.intro (And.intro @fld39_3 @ptOf39_3) (And.intro @fld39_4 (And.intro @ptOf39_4 @fld39_5))) (And.intro (And.intro @ptOf39_5 (And.intro @fld39_6 @ptOf39_6)) (And.intro @fld39_7 (And.intro @ptOf39_7 @fld39_8)))) (And.intro (And.intro (And.intro @ptOf39_8 (And.intro @places39 @aeq39)) (And.intro @sz40 (And.intro @ag40 @byt40))) (And.intro (And.intro @zro40 (And.intro @zeroRow40 @elt40)) (And.intro @kOf40 (And.intro @ptOf40_0 @sz41))))) (And.intro (And.intro (And.intro (And.intro @ag41 (And.intro @byt41 @zro41)) (And.intro @zeroRow41 (And.intro @elt41 @kOf41))) (And.intro (And.intro @ptOf41_0 (And.intro @sz45 @ag45)) (And.intro @byt45 (And.intro @zro45 @zeroRow45)))) (And.intro (And.intro (And.intro @Tryz.underlying3 (And.intro @Tryz.underlying4 @Tryz.underlying22)) (And.intro @Tryz.underlying25 (And.intro @Tryz.underlying39 @Tryz.underlying40))) (And.intro (And.intro @Tryz.underlying41 (And.intro @Tryz.underlying45 @Tryz.eqGuardType25)) (And.intro @mutOf22 (And.intro @mutOf40 @mutOf41)))))))
end Go.Proofs.Pv
