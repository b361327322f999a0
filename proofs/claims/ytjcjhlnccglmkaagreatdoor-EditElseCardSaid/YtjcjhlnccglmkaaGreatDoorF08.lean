/-
  What the program's types are, as the abstract machine asks them.
  Conditions: none.
-/
import Derived.Test.YtjcjhlnccglmkaaGreatDoorPvBA
import Derived.Test.YtjcjhlnccglmkaaGreatDoorK08
namespace Go.Proofs.Pv
set_option linter.unusedSimpArgs false
set_option linter.unusedVariables false
open Go Go.Proofs
theorem sz0 : sz Tryz.prog 0 = some 1 := by kernel_rfl
theorem ag0 : ag Tryz.prog 0 = false := by kernel_rfl
theorem byt0 : byt Tryz.prog 0 = some 0 := by kernel_rfl
theorem zro0 : zro Tryz.prog 0 = some [.undef] := by kernel_rfl
theorem sz3 : sz Tryz.prog 3 = some 1 := by kernel_rfl
theorem ag3 : ag Tryz.prog 3 = false := by kernel_rfl
theorem byt3 : byt Tryz.prog 3 = some 8 := by kernel_rfl
theorem zro3 : zro Tryz.prog 3 = some [(.int .i64 0)] := by kernel_rfl
theorem zeroRow3 : zeroRow Tryz.prog 3 = some (1, (.int .i64 0)) := by kernel_rfl
theorem sz4 : sz Tryz.prog 4 = some 1 := by kernel_rfl
theorem ag4 : ag Tryz.prog 4 = false := by kernel_rfl
theorem byt4 : byt Tryz.prog 4 = some 1 := by kernel_rfl
theorem zro4 : zro Tryz.prog 4 = some [(.bool false)] := by kernel_rfl
theorem zeroRow4 : zeroRow Tryz.prog 4 = some (1, (.bool false)) := by kernel_rfl
theorem sz5 : sz Tryz.prog 5 = some 1 := by kernel_rfl
theorem ag5 : ag Tryz.prog 5 = false := by kernel_rfl
theorem byt5 : byt Tryz.prog 5 = some 1 := by kernel_rfl
theorem zro5 : zro Tryz.prog 5 = some [(.int .u8 0)] := by kernel_rfl
theorem zeroRow5 : zeroRow Tryz.prog 5 = some (1, (.int .u8 0)) := by kernel_rfl
theorem sz9 : sz Tryz.prog 9 = some 1 := by kernel_rfl
theorem ag9 : ag Tryz.prog 9 = false := by kernel_rfl
theorem byt9 : byt Tryz.prog 9 = some 16 := by kernel_rfl
theorem zro9 : zro Tryz.prog 9 = some [(.str (ByteArray.mk #[]))] := by kernel_rfl
theorem zeroRow9 : zeroRow Tryz.prog 9 = some (1, (.str (ByteArray.mk #[]))) := by kernel_rfl
theorem sz12 : sz Tryz.prog 12 = some 1 := by kernel_rfl
theorem ag12 : ag Tryz.prog 12 = false := by kernel_rfl
theorem byt12 : byt Tryz.prog 12 = some 8 := by kernel_rfl
theorem zro12 : zro Tryz.prog 12 = some [(.int .u64 0)] := by kernel_rfl
theorem zeroRow12 : zeroRow Tryz.prog 12 = some (1, (.int .u64 0)) := by kernel_rfl
theorem sz20 : sz Tryz.prog 20 = some 1 := by kernel_rfl
theorem ag20 : ag Tryz.prog 20 = false := by kernel_rfl
theorem byt20 : byt Tryz.prog 20 = some 16 := by kernel_rfl
theorem zro20 : zro Tryz.prog 20 = some [.nili] := by kernel_rfl
theorem zeroRow20 : zeroRow Tryz.prog 20 = some (1, .nili) := by kernel_rfl
theorem sz21 : sz Tryz.prog 21 = some 1 := by kernel_rfl
theorem ag21 : ag Tryz.prog 21 = false := by kernel_rfl
theorem byt21 : byt Tryz.prog 21 = some 4 := by kernel_rfl
theorem zro21 : zro Tryz.prog 21 = some [(.int .i32 0)] := by kernel_rfl
theorem zeroRow21 : zeroRow Tryz.prog 21 = some (1, (.int .i32 0)) := by kernel_rfl
theorem sz22 : sz Tryz.prog 22 = some 1 := by kernel_rfl
theorem ag22 : ag Tryz.prog 22 = false := by kernel_rfl
theorem byt22 : byt Tryz.prog 22 = some 24 := by kernel_rfl
theorem zro22 : zro Tryz.prog 22 = some [(.sl 14 [] .full)] := by kernel_rfl
theorem zeroRow22 : zeroRow Tryz.prog 22 = some (1, (.sl 14 [] .full)) := by kernel_rfl
theorem elt22 : elt Tryz.prog 22 = some 83 := by kernel_rfl
theorem kOf22 : kOf Tryz.prog 22 = 14 := by kernel_rfl
theorem ptOf22_0 : ptOf Tryz.prog 22 0 = 83 := by kernel_rfl
theorem sz23 : sz Tryz.prog 23 = some 1 := by kernel_rfl
theorem ag23 : ag Tryz.prog 23 = false := by kernel_rfl
theorem byt23 : byt Tryz.prog 23 = some 24 := by kernel_rfl
theorem zro23 : zro Tryz.prog 23 = some [(.sl 5 [] .full)] := by kernel_rfl
theorem zeroRow23 : zeroRow Tryz.prog 23 = some (1, (.sl 5 [] .full)) := by kernel_rfl
theorem elt23 : elt Tryz.prog 23 = some 44 := by kernel_rfl
theorem kOf23 : kOf Tryz.prog 23 = 5 := by kernel_rfl
theorem ptOf23_0 : ptOf Tryz.prog 23 0 = 44 := by kernel_rfl
theorem sz25 : sz Tryz.prog 25 = some 3 := by kernel_rfl
theorem ag25 : ag Tryz.prog 25 = true := by kernel_rfl
theorem byt25 : byt Tryz.prog 25 = some 64 := by kernel_rfl
theorem zro25 : zro Tryz.prog 25 = some [(.str (ByteArray.mk #[])), (.sl 14 [] .full), (.sl 5 [] .full)] := by kernel_rfl
theorem zeroRow25 : zeroRow Tryz.prog 25 = some (3, (.agg [(.str (ByteArray.mk #[])), (.sl 14 [] .full), (.sl 5 [] .full)])) := by kernel_rfl
theorem fld25_0 : fld Tryz.prog 25 0 = some (0, 1, 9) := by kernel_rfl
theorem ptOf25_0 : ptOf Tryz.prog 25 0 = 9 := by kernel_rfl
theorem fld25_1 : fld Tryz.prog 25 1 = some (1, 1, 22) := by kernel_rfl
theorem ptOf25_1 : ptOf Tryz.prog 25 1 = 22 := by kernel_rfl
theorem fld25_2 : fld Tryz.prog 25 2 = some (2, 1, 23) := by kernel_rfl
theorem ptOf25_2 : ptOf Tryz.prog 25 2 = 23 := by kernel_rfl
theorem places25 : places Tryz.prog 25 = some [(0, 1), (1, 1), (2, 1)] := by kernel_rfl
theorem sz27 : sz Tryz.prog 27 = some 4 := by kernel_rfl
theorem ag27 : ag Tryz.prog 27 = true := by kernel_rfl
theorem byt27 : byt Tryz.prog 27 = some 32 := by kernel_rfl
theorem zro27 : zro Tryz.prog 27 = some [(.int .i64 0), (.int .i64 0), (.int .i64 0), (.int .i64 0)] := by kernel_rfl
theorem zeroRow27 : zeroRow Tryz.prog 27 = some (4, (.agg [(.int .i64 0), (.int .i64 0), (.int .i64 0), (.int .i64 0)])) := by kernel_rfl
theorem fld27_0 : fld Tryz.prog 27 0 = some (0, 1, 3) := by kernel_rfl
theorem ptOf27_0 : ptOf Tryz.prog 27 0 = 3 := by kernel_rfl
theorem fld27_1 : fld Tryz.prog 27 1 = some (1, 1, 3) := by kernel_rfl
theorem ptOf27_1 : ptOf Tryz.prog 27 1 = 3 := by kernel_rfl
theorem fld27_2 : fld Tryz.prog 27 2 = some (2, 1, 3) := by kernel_rfl
theorem ptOf27_2 : ptOf Tryz.prog 27 2 = 3 := by kernel_rfl
theorem fld27_3 : fld Tryz.prog 27 3 = some (3, 1, 3) := by kernel_rfl
theorem ptOf27_3 : ptOf Tryz.prog 27 3 = 3 := by kernel_rfl
theorem places27 : places Tryz.prog 27 = some [(0, 1), (1, 1), (2, 1), (3, 1)] := by kernel_rfl
theorem aeq27 (a0 : Int) (a1 : Int) (a2 : Int) (a3 : Int) (b0 : Int) (b1 : Int) (b2 : Int) (b3 : Int) : aeq Tryz.prog 9 27 (.agg [.int .i64 a0, .int .i64 a1, .int .i64 a2, .int .i64 a3]) (.agg [.int .i64 b0, .int .i64 b1, .int .i64 b2, .int .i64 b3]) = some (((a0 == b0) && ((a1 == b1) && ((a2 == b2) && ((a3 == b3) && true))))) := by kernel_rfl
theorem sz28 : sz Tryz.prog 28 = some 1 := by kernel_rfl
theorem ag28 : ag Tryz.prog 28 = false := by kernel_rfl
theorem byt28 : byt Tryz.prog 28 = some 24 := by kernel_rfl
theorem zro28 : zro Tryz.prog 28 = some [(.sl 9 [] .full)] := by kernel_rfl
theorem zeroRow28 : zeroRow Tryz.prog 28 = some (1, (.sl 9 [] .full)) := by kernel_rfl
theorem elt28 : elt Tryz.prog 28 = some 56 := by kernel_rfl
theorem kOf28 : kOf Tryz.prog 28 = 9 := by kernel_rfl
theorem ptOf28_0 : ptOf Tryz.prog 28 0 = 56 := by kernel_rfl
theorem sz29 : sz Tryz.prog 29 = some 1 := by kernel_rfl
theorem ag29 : ag Tryz.prog 29 = false := by kernel_rfl
theorem byt29 : byt Tryz.prog 29 = some 24 := by kernel_rfl
theorem zro29 : zro Tryz.prog 29 = some [(.sl 1 [] .full)] := by kernel_rfl
theorem zeroRow29 : zeroRow Tryz.prog 29 = some (1, (.sl 1 [] .full)) := by kernel_rfl
theorem elt29 : elt Tryz.prog 29 = some 41 := by kernel_rfl
theorem kOf29 : kOf Tryz.prog 29 = 1 := by kernel_rfl
theorem ptOf29_0 : ptOf Tryz.prog 29 0 = 41 := by kernel_rfl
theorem sz30 : sz Tryz.prog 30 = some 1 := by kernel_rfl
theorem ag30 : ag Tryz.prog 30 = false := by kernel_rfl
theorem byt30 : byt Tryz.prog 30 = some 24 := by kernel_rfl
theorem zro30 : zro Tryz.prog 30 = some [(.sl 1 [] .full)] := by kernel_rfl
theorem zeroRow30 : zeroRow Tryz.prog 30 = some (1, (.sl 1 [] .full)) := by kernel_rfl
theorem elt30 : elt Tryz.prog 30 = some 42 := by kernel_rfl
theorem kOf30 : kOf Tryz.prog 30 = 1 := by kernel_rfl
theorem ptOf30_0 : ptOf Tryz.prog 30 0 = 42 := by kernel_rfl
theorem sz32 : sz Tryz.prog 32 = some 2 := by kernel_rfl
theorem ag32 : ag Tryz.prog 32 = true := by kernel_rfl
theorem byt32 : byt Tryz.prog 32 = some 16 := by kernel_rfl
theorem zro32 : zro Tryz.prog 32 = some [(.int .i64 0), (.int .i64 0)] := by kernel_rfl
theorem zeroRow32 : zeroRow Tryz.prog 32 = some (2, (.agg [(.int .i64 0), (.int .i64 0)])) := by kernel_rfl
theorem fld32_0 : fld Tryz.prog 32 0 = some (0, 1, 3) := by kernel_rfl
theorem ptOf32_0 : ptOf Tryz.prog 32 0 = 3 := by kernel_rfl
theorem fld32_1 : fld Tryz.prog 32 1 = some (1, 1, 3) := by kernel_rfl
theorem ptOf32_1 : ptOf Tryz.prog 32 1 = 3 := by kernel_rfl
theorem places32 : places Tryz.prog 32 = some [(0, 1), (1, 1)] := by kernel_rfl
theorem aeq32 (a0 : Int) (a1 : Int) (b0 : Int) (b1 : Int) : aeq Tryz.prog 9 32 (.agg [.int .i64 a0, .int .i64 a1]) (.agg [.int .i64 b0, .int .i64 b1]) = some (((a0 == b0) && ((a1 == b1) && true))) := by kernel_rfl
theorem sz34 : sz Tryz.prog 34 = some 13 := by kernel_rfl
theorem ag34 : ag Tryz.prog 34 = true := by kernel_rfl
theorem byt34 : byt Tryz.prog 34 = some 176 := by kernel_rfl
theorem zro34 : zro Tryz.prog 34 = some [(.int .i64 0), (.int .i64 0), (.int .i64 0), (.int .i64 0), (.int .i64 0), (.int .i64 0), (.sl 9 [] .full), (.sl 14 [] .full), (.sl 1 [] .full), (.sl 1 [] .full), (.int .i64 0), (.int .i64 0), (.str (ByteArray.mk #[]))] := by kernel_rfl
theorem zeroRow34 : zeroRow Tryz.prog 34 = some (13, (.agg [(.int .i64 0), (.int .i64 0), (.int .i64 0), (.int .i64 0), (.int .i64 0), (.int .i64 0), (.sl 9 [] .full), (.sl 14 [] .full), (.sl 1 [] .full), (.sl 1 [] .full), (.int .i64 0), (.int .i64 0), (.str (ByteArray.mk #[]))])) := by kernel_rfl
theorem fld34_0 : fld Tryz.prog 34 0 = some (0, 1, 3) := by kernel_rfl
theorem ptOf34_0 : ptOf Tryz.prog 34 0 = 3 := by kernel_rfl
theorem fld34_1 : fld Tryz.prog 34 1 = some (1, 4, 27) := by kernel_rfl
theorem ptOf34_1 : ptOf Tryz.prog 34 1 = 27 := by kernel_rfl
theorem fld34_2 : fld Tryz.prog 34 2 = some (5, 1, 3) := by kernel_rfl
theorem ptOf34_2 : ptOf Tryz.prog 34 2 = 3 := by kernel_rfl
theorem fld34_3 : fld Tryz.prog 34 3 = some (6, 1, 28) := by kernel_rfl
theorem ptOf34_3 : ptOf Tryz.prog 34 3 = 28 := by kernel_rfl
theorem fld34_4 : fld Tryz.prog 34 4 = some (7, 1, 22) := by kernel_rfl
theorem ptOf34_4 : ptOf Tryz.prog 34 4 = 22 := by kernel_rfl
theorem fld34_5 : fld Tryz.prog 34 5 = some (8, 1, 29) := by kernel_rfl
theorem ptOf34_5 : ptOf Tryz.prog 34 5 = 29 := by kernel_rfl
theorem fld34_6 : fld Tryz.prog 34 6 = some (9, 1, 30) := by kernel_rfl
theorem ptOf34_6 : ptOf Tryz.prog 34 6 = 30 := by kernel_rfl
theorem fld34_7 : fld Tryz.prog 34 7 = some (10, 2, 32) := by kernel_rfl
theorem ptOf34_7 : ptOf Tryz.prog 34 7 = 32 := by kernel_rfl
theorem fld34_8 : fld Tryz.prog 34 8 = some (12, 1, 9) := by kernel_rfl
theorem ptOf34_8 : ptOf Tryz.prog 34 8 = 9 := by kernel_rfl
theorem places34 : places Tryz.prog 34 = some [(0, 1), (1, 4), (5, 1), (6, 1), (7, 1), (8, 1), (9, 1), (10, 2), (12, 1)] := by kernel_rfl
theorem sz38 : sz Tryz.prog 38 = some 1 := by kernel_rfl
theorem ag38 : ag Tryz.prog 38 = false := by kernel_rfl
theorem byt38 : byt Tryz.prog 38 = some 8 := by kernel_rfl
theorem zro38 : zro Tryz.prog 38 = some [(.int .i64 0)] := by kernel_rfl
theorem zeroRow38 : zeroRow Tryz.prog 38 = some (1, (.int .i64 0)) := by kernel_rfl
theorem sz39 : sz Tryz.prog 39 = some 1 := by kernel_rfl
theorem ag39 : ag Tryz.prog 39 = false := by kernel_rfl
theorem byt39 : byt Tryz.prog 39 = some 0 := by kernel_rfl
theorem zro39 : zro Tryz.prog 39 = some [.undef] := by kernel_rfl
theorem sz41 : sz Tryz.prog 41 = some 1 := by kernel_rfl
theorem ag41 : ag Tryz.prog 41 = false := by kernel_rfl
theorem byt41 : byt Tryz.prog 41 = some 24 := by kernel_rfl
theorem zro41 : zro Tryz.prog 41 = some [(.sl 1 [] .full)] := by kernel_rfl
theorem zeroRow41 : zeroRow Tryz.prog 41 = some (1, (.sl 1 [] .full)) := by kernel_rfl
theorem elt41 : elt Tryz.prog 41 = some 45 := by kernel_rfl
theorem kOf41 : kOf Tryz.prog 41 = 1 := by kernel_rfl
theorem ptOf41_0 : ptOf Tryz.prog 41 0 = 45 := by kernel_rfl
theorem sz42 : sz Tryz.prog 42 = some 1 := by kernel_rfl
theorem ag42 : ag Tryz.prog 42 = false := by kernel_rfl
theorem byt42 : byt Tryz.prog 42 = some 24 := by kernel_rfl
theorem zro42 : zro Tryz.prog 42 = some [(.sl 1 [] .full)] := by kernel_rfl
theorem zeroRow42 : zeroRow Tryz.prog 42 = some (1, (.sl 1 [] .full)) := by kernel_rfl
theorem elt42 : elt Tryz.prog 42 = some 88 := by kernel_rfl
theorem kOf42 : kOf Tryz.prog 42 = 1 := by kernel_rfl
theorem ptOf42_0 : ptOf Tryz.prog 42 0 = 88 := by kernel_rfl
theorem sz44 : sz Tryz.prog 44 = some 5 := by kernel_rfl
theorem ag44 : ag Tryz.prog 44 = true := by kernel_rfl
theorem byt44 : byt Tryz.prog 44 = some 80 := by kernel_rfl
theorem zro44 : zro Tryz.prog 44 = some [(.str (ByteArray.mk #[])), (.int .i64 0), (.int .i64 0), (.sl 1 [] .full), (.sl 1 [] .full)] := by kernel_rfl
theorem zeroRow44 : zeroRow Tryz.prog 44 = some (5, (.agg [(.str (ByteArray.mk #[])), (.int .i64 0), (.int .i64 0), (.sl 1 [] .full), (.sl 1 [] .full)])) := by kernel_rfl
theorem fld44_0 : fld Tryz.prog 44 0 = some (0, 1, 9) := by kernel_rfl
theorem ptOf44_0 : ptOf Tryz.prog 44 0 = 9 := by kernel_rfl
theorem fld44_1 : fld Tryz.prog 44 1 = some (1, 1, 3) := by kernel_rfl
theorem ptOf44_1 : ptOf Tryz.prog 44 1 = 3 := by kernel_rfl
theorem fld44_2 : fld Tryz.prog 44 2 = some (2, 1, 3) := by kernel_rfl
theorem ptOf44_2 : ptOf Tryz.prog 44 2 = 3 := by kernel_rfl
theorem fld44_3 : fld Tryz.prog 44 3 = some (3, 1, 41) := by kernel_rfl
theorem ptOf44_3 : ptOf Tryz.prog 44 3 = 41 := by kernel_rfl
theorem fld44_4 : fld Tryz.prog 44 4 = some (4, 1, 42) := by kernel_rfl
theorem ptOf44_4 : ptOf Tryz.prog 44 4 = 42 := by kernel_rfl
theorem places44 : places Tryz.prog 44 = some [(0, 1), (1, 1), (2, 1), (3, 1), (4, 1)] := by kernel_rfl
theorem sz45 : sz Tryz.prog 45 = some 1 := by kernel_rfl
theorem ag45 : ag Tryz.prog 45 = false := by kernel_rfl
theorem byt45 : byt Tryz.prog 45 = some 24 := by kernel_rfl
theorem zro45 : zro Tryz.prog 45 = some [(.sl 1 [] .full)] := by kernel_rfl
theorem zeroRow45 : zeroRow Tryz.prog 45 = some (1, (.sl 1 [] .full)) := by kernel_rfl
theorem elt45 : elt Tryz.prog 45 = some 47 := by kernel_rfl
theorem kOf45 : kOf Tryz.prog 45 = 1 := by kernel_rfl
theorem ptOf45_0 : ptOf Tryz.prog 45 0 = 47 := by kernel_rfl
theorem sz47 : sz Tryz.prog 47 = some 1 := by kernel_rfl
theorem ag47 : ag Tryz.prog 47 = true := by kernel_rfl
theorem byt47 : byt Tryz.prog 47 = some 24 := by kernel_rfl
theorem zro47 : zro Tryz.prog 47 = some [(.sl 9 [] .full)] := by kernel_rfl
theorem zeroRow47 : zeroRow Tryz.prog 47 = some (1, (.agg [(.sl 9 [] .full)])) := by kernel_rfl
theorem fld47_0 : fld Tryz.prog 47 0 = some (0, 1, 28) := by kernel_rfl
theorem ptOf47_0 : ptOf Tryz.prog 47 0 = 28 := by kernel_rfl
theorem places47 : places Tryz.prog 47 = some [(0, 1)] := by kernel_rfl
theorem sz51 : sz Tryz.prog 51 = some 4 := by kernel_rfl
theorem ag51 : ag Tryz.prog 51 = true := by kernel_rfl
theorem byt51 : byt Tryz.prog 51 = some 32 := by kernel_rfl
theorem zro51 : zro Tryz.prog 51 = some [(.int .i64 0), (.int .i64 0), (.int .i64 0), (.int .i64 0)] := by kernel_rfl
theorem zeroRow51 : zeroRow Tryz.prog 51 = some (4, (.agg [(.int .i64 0), (.int .i64 0), (.int .i64 0), (.int .i64 0)])) := by kernel_rfl
theorem fld51_0 : fld Tryz.prog 51 0 = some (0, 1, 3) := by kernel_rfl
theorem ptOf51_0 : ptOf Tryz.prog 51 0 = 3 := by kernel_rfl
theorem fld51_1 : fld Tryz.prog 51 1 = some (1, 1, 3) := by kernel_rfl
theorem ptOf51_1 : ptOf Tryz.prog 51 1 = 3 := by kernel_rfl
theorem fld51_2 : fld Tryz.prog 51 2 = some (2, 1, 3) := by kernel_rfl
theorem ptOf51_2 : ptOf Tryz.prog 51 2 = 3 := by kernel_rfl
theorem fld51_3 : fld Tryz.prog 51 3 = some (3, 1, 3) := by kernel_rfl
theorem ptOf51_3 : ptOf Tryz.prog 51 3 = 3 := by kernel_rfl
theorem places51 : places Tryz.prog 51 = some [(0, 1), (1, 1), (2, 1), (3, 1)] := by kernel_rfl
theorem aeq51 (a0 : Int) (a1 : Int) (a2 : Int) (a3 : Int) (b0 : Int) (b1 : Int) (b2 : Int) (b3 : Int) : aeq Tryz.prog 9 51 (.agg [.int .i64 a0, .int .i64 a1, .int .i64 a2, .int .i64 a3]) (.agg [.int .i64 b0, .int .i64 b1, .int .i64 b2, .int .i64 b3]) = some (((a0 == b0) && ((a1 == b1) && ((a2 == b2) && ((a3 == b3) && true))))) := by kernel_rfl
theorem sz52 : sz Tryz.prog 52 = some 1 := by kernel_rfl
theorem ag52 : ag Tryz.prog 52 = false := by kernel_rfl
theorem byt52 : byt Tryz.prog 52 = some 24 := by kernel_rfl
theorem zro52 : zro Tryz.prog 52 = some [(.sl 3 [] .full)] := by kernel_rfl
theorem zeroRow52 : zeroRow Tryz.prog 52 = some (1, (.sl 3 [] .full)) := by kernel_rfl
theorem elt52 : elt Tryz.prog 52 = some 86 := by kernel_rfl
theorem kOf52 : kOf Tryz.prog 52 = 3 := by kernel_rfl
theorem ptOf52_0 : ptOf Tryz.prog 52 0 = 86 := by kernel_rfl
theorem sz53 : sz Tryz.prog 53 = some 1 := by kernel_rfl
theorem ag53 : ag Tryz.prog 53 = false := by kernel_rfl
theorem byt53 : byt Tryz.prog 53 = some 24 := by kernel_rfl
theorem zro53 : zro Tryz.prog 53 = some [(.sl 1 [] .full)] := by kernel_rfl
theorem zeroRow53 : zeroRow Tryz.prog 53 = some (1, (.sl 1 [] .full)) := by kernel_rfl
theorem elt53 : elt Tryz.prog 53 = some 4 := by kernel_rfl
theorem kOf53 : kOf Tryz.prog 53 = 1 := by kernel_rfl
theorem ptOf53_0 : ptOf Tryz.prog 53 0 = 4 := by kernel_rfl
theorem sz54 : sz Tryz.prog 54 = some 1 := by kernel_rfl
theorem ag54 : ag Tryz.prog 54 = false := by kernel_rfl
theorem byt54 : byt Tryz.prog 54 = some 24 := by kernel_rfl
theorem zro54 : zro Tryz.prog 54 = some [(.sl 1 [] .full)] := by kernel_rfl
theorem zeroRow54 : zeroRow Tryz.prog 54 = some (1, (.sl 1 [] .full)) := by kernel_rfl
theorem elt54 : elt Tryz.prog 54 = some 3 := by kernel_rfl
theorem kOf54 : kOf Tryz.prog 54 = 1 := by kernel_rfl
theorem ptOf54_0 : ptOf Tryz.prog 54 0 = 3 := by kernel_rfl
theorem sz56 : sz Tryz.prog 56 = some 9 := by kernel_rfl
theorem ag56 : ag Tryz.prog 56 = true := by kernel_rfl
theorem byt56 : byt Tryz.prog 56 = some 128 := by kernel_rfl
theorem zro56 : zro Tryz.prog 56 = some [(.int .i64 0), (.sl 3 [] .full), (.sl 1 [] .full), (.int .i64 0), (.int .i64 0), (.int .i64 0), (.int .i64 0), (.sl 1 [] .full), (.str (ByteArray.mk #[]))] := by kernel_rfl
theorem zeroRow56 : zeroRow Tryz.prog 56 = some (9, (.agg [(.int .i64 0), (.sl 3 [] .full), (.sl 1 [] .full), (.int .i64 0), (.int .i64 0), (.int .i64 0), (.int .i64 0), (.sl 1 [] .full), (.str (ByteArray.mk #[]))])) := by kernel_rfl
theorem fld56_0 : fld Tryz.prog 56 0 = some (0, 1, 3) := by kernel_rfl
theorem ptOf56_0 : ptOf Tryz.prog 56 0 = 3 := by kernel_rfl
theorem fld56_1 : fld Tryz.prog 56 1 = some (1, 1, 52) := by kernel_rfl
theorem ptOf56_1 : ptOf Tryz.prog 56 1 = 52 := by kernel_rfl
theorem fld56_2 : fld Tryz.prog 56 2 = some (2, 1, 53) := by kernel_rfl
theorem ptOf56_2 : ptOf Tryz.prog 56 2 = 53 := by kernel_rfl
theorem fld56_3 : fld Tryz.prog 56 3 = some (3, 4, 51) := by kernel_rfl
theorem ptOf56_3 : ptOf Tryz.prog 56 3 = 51 := by kernel_rfl
theorem fld56_4 : fld Tryz.prog 56 4 = some (7, 1, 54) := by kernel_rfl
theorem ptOf56_4 : ptOf Tryz.prog 56 4 = 54 := by kernel_rfl
theorem fld56_5 : fld Tryz.prog 56 5 = some (8, 1, 9) := by kernel_rfl
theorem ptOf56_5 : ptOf Tryz.prog 56 5 = 9 := by kernel_rfl
theorem places56 : places Tryz.prog 56 = some [(0, 1), (1, 1), (2, 1), (3, 4), (7, 1), (8, 1)] := by kernel_rfl
theorem sz58 : sz Tryz.prog 58 = some 1 := by kernel_rfl
theorem ag58 : ag Tryz.prog 58 = false := by kernel_rfl
theorem byt58 : byt Tryz.prog 58 = some 24 := by kernel_rfl
theorem zro58 : zro Tryz.prog 58 = some [(.sl 13 [] .full)] := by kernel_rfl
theorem zeroRow58 : zeroRow Tryz.prog 58 = some (1, (.sl 13 [] .full)) := by kernel_rfl
theorem elt58 : elt Tryz.prog 58 = some 34 := by kernel_rfl
theorem kOf58 : kOf Tryz.prog 58 = 13 := by kernel_rfl
theorem ptOf58_0 : ptOf Tryz.prog 58 0 = 34 := by kernel_rfl
theorem sz59 : sz Tryz.prog 59 = some 1 := by kernel_rfl
theorem ag59 : ag Tryz.prog 59 = false := by kernel_rfl
theorem byt59 : byt Tryz.prog 59 = some 0 := by kernel_rfl
theorem zro59 : zro Tryz.prog 59 = some [.undef] := by kernel_rfl
theorem sz62 : sz Tryz.prog 62 = some 1 := by kernel_rfl
theorem ag62 : ag Tryz.prog 62 = false := by kernel_rfl
theorem byt62 : byt Tryz.prog 62 = some 8 := by kernel_rfl
theorem zro62 : zro Tryz.prog 62 = some [.nilf] := by kernel_rfl
theorem zeroRow62 : zeroRow Tryz.prog 62 = some (1, .nilf) := by kernel_rfl
theorem sz63 : sz Tryz.prog 63 = some 1 := by kernel_rfl
theorem ag63 : ag Tryz.prog 63 = false := by kernel_rfl
theorem byt63 : byt Tryz.prog 63 = some 8 := by kernel_rfl
theorem zro63 : zro Tryz.prog 63 = some [.nilf] := by kernel_rfl
theorem zeroRow63 : zeroRow Tryz.prog 63 = some (1, .nilf) := by kernel_rfl
theorem sz65 : sz Tryz.prog 65 = some 1 := by kernel_rfl
theorem ag65 : ag Tryz.prog 65 = false := by kernel_rfl
theorem byt65 : byt Tryz.prog 65 = some 0 := by kernel_rfl
theorem zro65 : zro Tryz.prog 65 = some [.undef] := by kernel_rfl
theorem sz67 : sz Tryz.prog 67 = some 1 := by kernel_rfl
theorem ag67 : ag Tryz.prog 67 = false := by kernel_rfl
theorem byt67 : byt Tryz.prog 67 = some 8 := by kernel_rfl
theorem zro67 : zro Tryz.prog 67 = some [.nilp] := by kernel_rfl
theorem zeroRow67 : zeroRow Tryz.prog 67 = some (1, .nilp) := by kernel_rfl
theorem sz70 : sz Tryz.prog 70 = some 29 := by kernel_rfl
theorem ag70 : ag Tryz.prog 70 = true := by kernel_rfl
theorem byt70 : byt Tryz.prog 70 = some 416 := by kernel_rfl
theorem zro70 : zro Tryz.prog 70 = some [(.str (ByteArray.mk #[])), (.sl 14 [] .full), (.sl 5 [] .full), (.int .i64 0), (.int .i64 0), (.int .i64 0), (.int .i64 0), (.int .i64 0), (.int .i64 0), (.sl 9 [] .full), (.sl 14 [] .full), (.sl 1 [] .full), (.sl 1 [] .full), (.int .i64 0), (.int .i64 0), (.str (ByteArray.mk #[])), (.int .i64 0), (.int .i64 0), (.int .i64 0), (.int .i64 0), (.int .i64 0), (.int .i64 0), (.sl 9 [] .full), (.sl 14 [] .full), (.sl 1 [] .full), (.sl 1 [] .full), (.int .i64 0), (.int .i64 0), (.str (ByteArray.mk #[]))] := by kernel_rfl
theorem zeroRow70 : zeroRow Tryz.prog 70 = some (29, (.agg [(.str (ByteArray.mk #[])), (.sl 14 [] .full), (.sl 5 [] .full), (.int .i64 0), (.int .i64 0), (.int .i64 0), (.int .i64 0), (.int .i64 0), (.int .i64 0), (.sl 9 [] .full), (.sl 14 [] .full), (.sl 1 [] .full), (.sl 1 [] .full), (.int .i64 0), (.int .i64 0), (.str (ByteArray.mk #[])), (.int .i64 0), (.int .i64 0), (.int .i64 0), (.int .i64 0), (.int .i64 0), (.int .i64 0), (.sl 9 [] .full), (.sl 14 [] .full), (.sl 1 [] .full), (.sl 1 [] .full), (.int .i64 0), (.int .i64 0), (.str (ByteArray.mk #[]))])) := by kernel_rfl
theorem fld70_0 : fld Tryz.prog 70 0 = some (0, 3, 25) := by kernel_rfl
theorem ptOf70_0 : ptOf Tryz.prog 70 0 = 25 := by kernel_rfl
theorem fld70_1 : fld Tryz.prog 70 1 = some (3, 13, 34) := by kernel_rfl
theorem ptOf70_1 : ptOf Tryz.prog 70 1 = 34 := by kernel_rfl
theorem fld70_2 : fld Tryz.prog 70 2 = some (16, 13, 34) := by kernel_rfl
theorem ptOf70_2 : ptOf Tryz.prog 70 2 = 34 := by kernel_rfl
theorem places70 : places Tryz.prog 70 = some [(0, 3), (3, 13), (16, 13)] := by kernel_rfl
theorem sz71 : sz Tryz.prog 71 = some 1 := by kernel_rfl
theorem ag71 : ag Tryz.prog 71 = false := by kernel_rfl
theorem byt71 : byt Tryz.prog 71 = some 8 := by kernel_rfl
theorem zro71 : zro Tryz.prog 71 = some [.nilf] := by kernel_rfl
theorem zeroRow71 : zeroRow Tryz.prog 71 = some (1, .nilf) := by kernel_rfl
theorem sz72 : sz Tryz.prog 72 = some 1 := by kernel_rfl
theorem ag72 : ag Tryz.prog 72 = false := by kernel_rfl
theorem byt72 : byt Tryz.prog 72 = some 8 := by kernel_rfl
theorem zro72 : zro Tryz.prog 72 = some [.nilm] := by kernel_rfl
theorem zeroRow72 : zeroRow Tryz.prog 72 = some (1, .nilm) := by kernel_rfl
theorem sz73 : sz Tryz.prog 73 = some 1 := by kernel_rfl
theorem ag73 : ag Tryz.prog 73 = false := by kernel_rfl
theorem byt73 : byt Tryz.prog 73 = some 0 := by kernel_rfl
theorem zro73 : zro Tryz.prog 73 = some [.undef] := by kernel_rfl
theorem sz76 : sz Tryz.prog 76 = some 3 := by kernel_rfl
theorem ag76 : ag Tryz.prog 76 = true := by kernel_rfl
theorem byt76 : byt Tryz.prog 76 = some 40 := by kernel_rfl
theorem zro76 : zro Tryz.prog 76 = some [(.int .i64 0), (.int .i64 0), (.sl 1 [] .full)] := by kernel_rfl
theorem zeroRow76 : zeroRow Tryz.prog 76 = some (3, (.agg [(.int .i64 0), (.int .i64 0), (.sl 1 [] .full)])) := by kernel_rfl
theorem fld76_0 : fld Tryz.prog 76 0 = some (0, 1, 3) := by kernel_rfl
theorem ptOf76_0 : ptOf Tryz.prog 76 0 = 3 := by kernel_rfl
theorem fld76_1 : fld Tryz.prog 76 1 = some (1, 1, 3) := by kernel_rfl
theorem ptOf76_1 : ptOf Tryz.prog 76 1 = 3 := by kernel_rfl
theorem fld76_2 : fld Tryz.prog 76 2 = some (2, 1, 54) := by kernel_rfl
theorem ptOf76_2 : ptOf Tryz.prog 76 2 = 54 := by kernel_rfl
theorem places76 : places Tryz.prog 76 = some [(0, 1), (1, 1), (2, 1)] := by kernel_rfl
theorem sz78 : sz Tryz.prog 78 = some 2 := by kernel_rfl
theorem ag78 : ag Tryz.prog 78 = true := by kernel_rfl
theorem byt78 : byt Tryz.prog 78 = some 16 := by kernel_rfl
theorem zro78 : zro Tryz.prog 78 = some [(.int .i64 0), (.bool false)] := by kernel_rfl
theorem zeroRow78 : zeroRow Tryz.prog 78 = some (2, (.agg [(.int .i64 0), (.bool false)])) := by kernel_rfl
theorem fld78_0 : fld Tryz.prog 78 0 = some (0, 1, 3) := by kernel_rfl
theorem ptOf78_0 : ptOf Tryz.prog 78 0 = 3 := by kernel_rfl
theorem fld78_1 : fld Tryz.prog 78 1 = some (1, 1, 4) := by kernel_rfl
theorem ptOf78_1 : ptOf Tryz.prog 78 1 = 4 := by kernel_rfl
theorem places78 : places Tryz.prog 78 = some [(0, 1), (1, 1)] := by kernel_rfl
theorem aeq78 (a0 : Int) (a1 : Bool) (b0 : Int) (b1 : Bool) : aeq Tryz.prog 9 78 (.agg [.int .i64 a0, .bool a1]) (.agg [.int .i64 b0, .bool b1]) = some (((a0 == b0) && ((a1 == b1) && true))) := by kernel_rfl
theorem sz80 : sz Tryz.prog 80 = some 8 := by kernel_rfl
theorem ag80 : ag Tryz.prog 80 = true := by kernel_rfl
theorem byt80 : byt Tryz.prog 80 = some 56 := by kernel_rfl
theorem zro80 : zro Tryz.prog 80 = some [(.bool false), (.int .i64 0), (.sl 1 [] .full), (.bool false), (.bool false), (.bool false), (.bool false), (.int .i64 0)] := by kernel_rfl
theorem zeroRow80 : zeroRow Tryz.prog 80 = some (8, (.agg [(.bool false), (.int .i64 0), (.sl 1 [] .full), (.bool false), (.bool false), (.bool false), (.bool false), (.int .i64 0)])) := by kernel_rfl
theorem fld80_0 : fld Tryz.prog 80 0 = some (0, 1, 4) := by kernel_rfl
theorem ptOf80_0 : ptOf Tryz.prog 80 0 = 4 := by kernel_rfl
theorem fld80_1 : fld Tryz.prog 80 1 = some (1, 1, 3) := by kernel_rfl
theorem ptOf80_1 : ptOf Tryz.prog 80 1 = 3 := by kernel_rfl
theorem fld80_2 : fld Tryz.prog 80 2 = some (2, 1, 54) := by kernel_rfl
theorem ptOf80_2 : ptOf Tryz.prog 80 2 = 54 := by kernel_rfl
theorem fld80_3 : fld Tryz.prog 80 3 = some (3, 1, 4) := by kernel_rfl
theorem ptOf80_3 : ptOf Tryz.prog 80 3 = 4 := by kernel_rfl
theorem fld80_4 : fld Tryz.prog 80 4 = some (4, 1, 4) := by kernel_rfl
theorem ptOf80_4 : ptOf Tryz.prog 80 4 = 4 := by kernel_rfl
theorem fld80_5 : fld Tryz.prog 80 5 = some (5, 1, 4) := by kernel_rfl
theorem ptOf80_5 : ptOf Tryz.prog 80 5 = 4 := by kernel_rfl
theorem fld80_6 : fld Tryz.prog 80 6 = some (6, 1, 4) := by kernel_rfl
theorem ptOf80_6 : ptOf Tryz.prog 80 6 = 4 := by kernel_rfl
theorem fld80_7 : fld Tryz.prog 80 7 = some (7, 1, 3) := by kernel_rfl
theorem ptOf80_7 : ptOf Tryz.prog 80 7 = 3 := by kernel_rfl
theorem places80 : places Tryz.prog 80 = some [(0, 1), (1, 1), (2, 1), (3, 1), (4, 1), (5, 1), (6, 1), (7, 1)] := by kernel_rfl
theorem sz81 : sz Tryz.prog 81 = some 1 := by kernel_rfl
theorem ag81 : ag Tryz.prog 81 = false := by kernel_rfl
theorem byt81 : byt Tryz.prog 81 = some 24 := by kernel_rfl
theorem zro81 : zro Tryz.prog 81 = some [(.sl 4 [] .full)] := by kernel_rfl
theorem zeroRow81 : zeroRow Tryz.prog 81 = some (1, (.sl 4 [] .full)) := by kernel_rfl
theorem elt81 : elt Tryz.prog 81 = some 137 := by kernel_rfl
theorem kOf81 : kOf Tryz.prog 81 = 4 := by kernel_rfl
theorem ptOf81_0 : ptOf Tryz.prog 81 0 = 137 := by kernel_rfl
theorem sz83 : sz Tryz.prog 83 = some 14 := by kernel_rfl
theorem ag83 : ag Tryz.prog 83 = true := by kernel_rfl
theorem byt83 : byt Tryz.prog 83 = some 136 := by kernel_rfl
theorem zro83 : zro Tryz.prog 83 = some [(.int .i64 0), (.int .i64 0), (.sl 1 [] .full), (.int .i64 0), (.bool false), (.bool false), (.int .i64 0), (.sl 1 [] .full), (.bool false), (.bool false), (.bool false), (.bool false), (.int .i64 0), (.sl 4 [] .full)] := by kernel_rfl
theorem zeroRow83 : zeroRow Tryz.prog 83 = some (14, (.agg [(.int .i64 0), (.int .i64 0), (.sl 1 [] .full), (.int .i64 0), (.bool false), (.bool false), (.int .i64 0), (.sl 1 [] .full), (.bool false), (.bool false), (.bool false), (.bool false), (.int .i64 0), (.sl 4 [] .full)])) := by kernel_rfl
theorem fld83_0 : fld Tryz.prog 83 0 = some (0, 3, 76) := by kernel_rfl
theorem ptOf83_0 : ptOf Tryz.prog 83 0 = 76 := by kernel_rfl
theorem fld83_1 : fld Tryz.prog 83 1 = some (3, 2, 78) := by kernel_rfl
theorem ptOf83_1 : ptOf Tryz.prog 83 1 = 78 := by kernel_rfl
theorem fld83_2 : fld Tryz.prog 83 2 = some (5, 8, 80) := by kernel_rfl
theorem ptOf83_2 : ptOf Tryz.prog 83 2 = 80 := by kernel_rfl
theorem fld83_3 : fld Tryz.prog 83 3 = some (13, 1, 81) := by kernel_rfl
theorem ptOf83_3 : ptOf Tryz.prog 83 3 = 81 := by kernel_rfl
theorem places83 : places Tryz.prog 83 = some [(0, 3), (3, 2), (5, 8), (13, 1)] := by kernel_rfl
theorem sz86 : sz Tryz.prog 86 = some 3 := by kernel_rfl
theorem ag86 : ag Tryz.prog 86 = true := by kernel_rfl
theorem byt86 : byt Tryz.prog 86 = some 24 := by kernel_rfl
theorem zro86 : zro Tryz.prog 86 = some [(.int .i64 0), (.int .i64 0), (.int .i64 0)] := by kernel_rfl
theorem zeroRow86 : zeroRow Tryz.prog 86 = some (3, (.agg [(.int .i64 0), (.int .i64 0), (.int .i64 0)])) := by kernel_rfl
theorem fld86_0 : fld Tryz.prog 86 0 = some (0, 1, 3) := by kernel_rfl
theorem ptOf86_0 : ptOf Tryz.prog 86 0 = 3 := by kernel_rfl
theorem fld86_1 : fld Tryz.prog 86 1 = some (1, 1, 3) := by kernel_rfl
theorem ptOf86_1 : ptOf Tryz.prog 86 1 = 3 := by kernel_rfl
theorem fld86_2 : fld Tryz.prog 86 2 = some (2, 1, 3) := by kernel_rfl
theorem ptOf86_2 : ptOf Tryz.prog 86 2 = 3 := by kernel_rfl
theorem places86 : places Tryz.prog 86 = some [(0, 1), (1, 1), (2, 1)] := by kernel_rfl
theorem aeq86 (a0 : Int) (a1 : Int) (a2 : Int) (b0 : Int) (b1 : Int) (b2 : Int) : aeq Tryz.prog 9 86 (.agg [.int .i64 a0, .int .i64 a1, .int .i64 a2]) (.agg [.int .i64 b0, .int .i64 b1, .int .i64 b2]) = some (((a0 == b0) && ((a1 == b1) && ((a2 == b2) && true)))) := by kernel_rfl
theorem sz88 : sz Tryz.prog 88 = some 1 := by kernel_rfl
theorem ag88 : ag Tryz.prog 88 = false := by kernel_rfl
theorem byt88 : byt Tryz.prog 88 = some 24 := by kernel_rfl
theorem zro88 : zro Tryz.prog 88 = some [(.sl 4 [] .full)] := by kernel_rfl
theorem zeroRow88 : zeroRow Tryz.prog 88 = some (1, (.sl 4 [] .full)) := by kernel_rfl
theorem elt88 : elt Tryz.prog 88 = some 109 := by kernel_rfl
theorem kOf88 : kOf Tryz.prog 88 = 4 := by kernel_rfl
theorem ptOf88_0 : ptOf Tryz.prog 88 0 = 109 := by kernel_rfl
theorem sz89 : sz Tryz.prog 89 = some 1 := by kernel_rfl
theorem ag89 : ag Tryz.prog 89 = false := by kernel_rfl
theorem byt89 : byt Tryz.prog 89 = some 8 := by kernel_rfl
theorem zro89 : zro Tryz.prog 89 = some [.nilf] := by kernel_rfl
theorem zeroRow89 : zeroRow Tryz.prog 89 = some (1, .nilf) := by kernel_rfl
theorem sz94 : sz Tryz.prog 94 = some 1 := by kernel_rfl
theorem ag94 : ag Tryz.prog 94 = false := by kernel_rfl
theorem byt94 : byt Tryz.prog 94 = some 8 := by kernel_rfl
theorem zro94 : zro Tryz.prog 94 = some [.nilf] := by kernel_rfl
theorem zeroRow94 : zeroRow Tryz.prog 94 = some (1, .nilf) := by kernel_rfl
theorem sz95 : sz Tryz.prog 95 = some 1 := by kernel_rfl
theorem ag95 : ag Tryz.prog 95 = false := by kernel_rfl
theorem byt95 : byt Tryz.prog 95 = some 8 := by kernel_rfl
theorem zro95 : zro Tryz.prog 95 = some [.nilf] := by kernel_rfl
theorem zeroRow95 : zeroRow Tryz.prog 95 = some (1, .nilf) := by kernel_rfl
theorem sz97 : sz Tryz.prog 97 = some 1 := by kernel_rfl
theorem ag97 : ag Tryz.prog 97 = false := by kernel_rfl
theorem byt97 : byt Tryz.prog 97 = some 0 := by kernel_rfl
theorem zro97 : zro Tryz.prog 97 = some [.undef] := by kernel_rfl
theorem sz103 : sz Tryz.prog 103 = some 1 := by kernel_rfl
theorem ag103 : ag Tryz.prog 103 = false := by kernel_rfl
theorem byt103 : byt Tryz.prog 103 = some 8 := by kernel_rfl
theorem zro103 : zro Tryz.prog 103 = some [.nilf] := by kernel_rfl
theorem zeroRow103 : zeroRow Tryz.prog 103 = some (1, .nilf) := by kernel_rfl
theorem sz105 : sz Tryz.prog 105 = some 1 := by kernel_rfl
theorem ag105 : ag Tryz.prog 105 = false := by kernel_rfl
theorem byt105 : byt Tryz.prog 105 = some 8 := by kernel_rfl
theorem zro105 : zro Tryz.prog 105 = some [.nilf] := by kernel_rfl
theorem zeroRow105 : zeroRow Tryz.prog 105 = some (1, .nilf) := by kernel_rfl
theorem sz107 : sz Tryz.prog 107 = some 2 := by kernel_rfl
theorem ag107 : ag Tryz.prog 107 = true := by kernel_rfl
theorem byt107 : byt Tryz.prog 107 = some 16 := by kernel_rfl
theorem zro107 : zro Tryz.prog 107 = some [(.int .i64 0), (.int .i64 0)] := by kernel_rfl
theorem zeroRow107 : zeroRow Tryz.prog 107 = some (2, (.agg [(.int .i64 0), (.int .i64 0)])) := by kernel_rfl
theorem fld107_0 : fld Tryz.prog 107 0 = some (0, 1, 3) := by kernel_rfl
theorem ptOf107_0 : ptOf Tryz.prog 107 0 = 3 := by kernel_rfl
theorem fld107_1 : fld Tryz.prog 107 1 = some (1, 1, 3) := by kernel_rfl
theorem ptOf107_1 : ptOf Tryz.prog 107 1 = 3 := by kernel_rfl
theorem places107 : places Tryz.prog 107 = some [(0, 1), (1, 1)] := by kernel_rfl
theorem aeq107 (a0 : Int) (a1 : Int) (b0 : Int) (b1 : Int) : aeq Tryz.prog 9 107 (.agg [.int .i64 a0, .int .i64 a1]) (.agg [.int .i64 b0, .int .i64 b1]) = some (((a0 == b0) && ((a1 == b1) && true))) := by kernel_rfl
theorem sz109 : sz Tryz.prog 109 = some 4 := by kernel_rfl
theorem ag109 : ag Tryz.prog 109 = true := by kernel_rfl
theorem byt109 : byt Tryz.prog 109 = some 32 := by kernel_rfl
theorem zro109 : zro Tryz.prog 109 = some [(.int .i64 0), (.int .i64 0), (.int .i64 0), (.bool false)] := by kernel_rfl
theorem zeroRow109 : zeroRow Tryz.prog 109 = some (4, (.agg [(.int .i64 0), (.int .i64 0), (.int .i64 0), (.bool false)])) := by kernel_rfl
theorem fld109_0 : fld Tryz.prog 109 0 = some (0, 2, 107) := by kernel_rfl
theorem ptOf109_0 : ptOf Tryz.prog 109 0 = 107 := by kernel_rfl
theorem fld109_1 : fld Tryz.prog 109 1 = some (2, 1, 3) := by kernel_rfl
theorem ptOf109_1 : ptOf Tryz.prog 109 1 = 3 := by kernel_rfl
theorem fld109_2 : fld Tryz.prog 109 2 = some (3, 1, 4) := by kernel_rfl
theorem ptOf109_2 : ptOf Tryz.prog 109 2 = 4 := by kernel_rfl
theorem places109 : places Tryz.prog 109 = some [(0, 2), (2, 1), (3, 1)] := by kernel_rfl
theorem aeq109 (a0 : Int) (a1 : Int) (a2 : Int) (a3 : Bool) (b0 : Int) (b1 : Int) (b2 : Int) (b3 : Bool) : aeq Tryz.prog 9 109 (.agg [.int .i64 a0, .int .i64 a1, .int .i64 a2, .bool a3]) (.agg [.int .i64 b0, .int .i64 b1, .int .i64 b2, .bool b3]) = some ((((a0 == b0) && ((a1 == b1) && true)) && ((a2 == b2) && ((a3 == b3) && true)))) := by kernel_rfl
theorem sz110 : sz Tryz.prog 110 = some 1 := by kernel_rfl
theorem ag110 : ag Tryz.prog 110 = false := by kernel_rfl
theorem byt110 : byt Tryz.prog 110 = some 8 := by kernel_rfl
theorem zro110 : zro Tryz.prog 110 = some [.nilf] := by kernel_rfl
theorem zeroRow110 : zeroRow Tryz.prog 110 = some (1, .nilf) := by kernel_rfl
theorem sz111 : sz Tryz.prog 111 = some 1 := by kernel_rfl
theorem ag111 : ag Tryz.prog 111 = false := by kernel_rfl
theorem byt111 : byt Tryz.prog 111 = some 8 := by kernel_rfl
theorem zro111 : zro Tryz.prog 111 = some [.nilp] := by kernel_rfl
theorem zeroRow111 : zeroRow Tryz.prog 111 = some (1, .nilp) := by kernel_rfl
theorem sz113 : sz Tryz.prog 113 = some 1 := by kernel_rfl
theorem ag113 : ag Tryz.prog 113 = false := by kernel_rfl
theorem byt113 : byt Tryz.prog 113 = some 8 := by kernel_rfl
theorem zro113 : zro Tryz.prog 113 = some [.nilf] := by kernel_rfl
theorem zeroRow113 : zeroRow Tryz.prog 113 = some (1, .nilf) := by kernel_rfl
theorem sz114 : sz Tryz.prog 114 = some 1 := by kernel_rfl
theorem ag114 : ag Tryz.prog 114 = false := by kernel_rfl
theorem byt114 : byt Tryz.prog 114 = some 8 := by kernel_rfl
theorem zro114 : zro Tryz.prog 114 = some [.nilp] := by kernel_rfl
theorem zeroRow114 : zeroRow Tryz.prog 114 = some (1, .nilp) := by kernel_rfl
theorem sz121 : sz Tryz.prog 121 = some 1 := by kernel_rfl
theorem ag121 : ag Tryz.prog 121 = false := by kernel_rfl
theorem byt121 : byt Tryz.prog 121 = some 8 := by kernel_rfl
theorem zro121 : zro Tryz.prog 121 = some [.nilp] := by kernel_rfl
theorem zeroRow121 : zeroRow Tryz.prog 121 = some (1, .nilp) := by kernel_rfl
theorem sz129 : sz Tryz.prog 129 = some 1 := by kernel_rfl
theorem ag129 : ag Tryz.prog 129 = false := by kernel_rfl
theorem byt129 : byt Tryz.prog 129 = some 8 := by kernel_rfl
theorem zro129 : zro Tryz.prog 129 = some [.nilp] := by kernel_rfl
theorem zeroRow129 : zeroRow Tryz.prog 129 = some (1, .nilp) := by kernel_rfl
theorem sz133 : sz Tryz.prog 133 = some 1 := by kernel_rfl
theorem ag133 : ag Tryz.prog 133 = false := by kernel_rfl
theorem byt133 : byt Tryz.prog 133 = some 0 := by kernel_rfl
theorem zro133 : zro Tryz.prog 133 = some [.undef] := by kernel_rfl
theorem sz137 : sz Tryz.prog 137 = some 4 := by kernel_rfl
theorem ag137 : ag Tryz.prog 137 = true := by kernel_rfl
theorem byt137 : byt Tryz.prog 137 = some 32 := by kernel_rfl
theorem zro137 : zro Tryz.prog 137 = some [(.int .i64 0), (.int .i64 0), (.int .i64 0), (.bool false)] := by kernel_rfl
theorem zeroRow137 : zeroRow Tryz.prog 137 = some (4, (.agg [(.int .i64 0), (.int .i64 0), (.int .i64 0), (.bool false)])) := by kernel_rfl
theorem fld137_0 : fld Tryz.prog 137 0 = some (0, 2, 107) := by kernel_rfl
theorem ptOf137_0 : ptOf Tryz.prog 137 0 = 107 := by kernel_rfl
theorem fld137_1 : fld Tryz.prog 137 1 = some (2, 1, 3) := by kernel_rfl
theorem ptOf137_1 : ptOf Tryz.prog 137 1 = 3 := by kernel_rfl
theorem fld137_2 : fld Tryz.prog 137 2 = some (3, 1, 4) := by kernel_rfl
theorem ptOf137_2 : ptOf Tryz.prog 137 2 = 4 := by kernel_rfl
theorem places137 : places Tryz.prog 137 = some [(0, 2), (2, 1), (3, 1)] := by kernel_rfl
theorem aeq137 (a0 : Int) (a1 : Int) (a2 : Int) (a3 : Bool) (b0 : Int) (b1 : Int) (b2 : Int) (b3 : Bool) : aeq Tryz.prog 9 137 (.agg [.int .i64 a0, .int .i64 a1, .int .i64 a2, .bool a3]) (.agg [.int .i64 b0, .int .i64 b1, .int .i64 b2, .bool b3]) = some ((((a0 == b0) && ((a1 == b1) && true)) && ((a2 == b2) && ((a3 == b3) && true)))) := by kernel_rfl
theorem sz140 : sz Tryz.prog 140 = some 1 := by kernel_rfl
theorem ag140 : ag Tryz.prog 140 = false := by kernel_rfl
theorem byt140 : byt Tryz.prog 140 = some 0 := by kernel_rfl
theorem zro140 : zro Tryz.prog 140 = some [.undef] := by kernel_rfl
theorem sz142 : sz Tryz.prog 142 = some 1 := by kernel_rfl
theorem ag142 : ag Tryz.prog 142 = false := by kernel_rfl
theorem byt142 : byt Tryz.prog 142 = some 8 := by kernel_rfl
theorem zro142 : zro Tryz.prog 142 = some [.nilf] := by kernel_rfl
theorem zeroRow142 : zeroRow Tryz.prog 142 = some (1, .nilf) := by kernel_rfl
theorem sz143 : sz Tryz.prog 143 = some 1 := by kernel_rfl
theorem ag143 : ag Tryz.prog 143 = false := by kernel_rfl
theorem byt143 : byt Tryz.prog 143 = some 8 := by kernel_rfl
theorem zro143 : zro Tryz.prog 143 = some [.nilf] := by kernel_rfl
theorem zeroRow143 : zeroRow Tryz.prog 143 = some (1, .nilf) := by kernel_rfl
theorem sz146 : sz Tryz.prog 146 = some 1 := by kernel_rfl
theorem ag146 : ag Tryz.prog 146 = false := by kernel_rfl
theorem byt146 : byt Tryz.prog 146 = some 24 := by kernel_rfl
theorem zro146 : zro Tryz.prog 146 = some [(.sl 2 [] .full)] := by kernel_rfl
theorem zeroRow146 : zeroRow Tryz.prog 146 = some (1, (.sl 2 [] .full)) := by kernel_rfl
theorem elt146 : elt Tryz.prog 146 = some 107 := by kernel_rfl
theorem kOf146 : kOf Tryz.prog 146 = 2 := by kernel_rfl
theorem ptOf146_0 : ptOf Tryz.prog 146 0 = 107 := by kernel_rfl
theorem sz149 : sz Tryz.prog 149 = some 1 := by kernel_rfl
theorem ag149 : ag Tryz.prog 149 = false := by kernel_rfl
theorem byt149 : byt Tryz.prog 149 = some 0 := by kernel_rfl
theorem zro149 : zro Tryz.prog 149 = some [.undef] := by kernel_rfl
theorem sz152 : sz Tryz.prog 152 = some 1 := by kernel_rfl
theorem ag152 : ag Tryz.prog 152 = false := by kernel_rfl
theorem byt152 : byt Tryz.prog 152 = some 8 := by kernel_rfl
theorem zro152 : zro Tryz.prog 152 = some [.nilf] := by kernel_rfl
theorem zeroRow152 : zeroRow Tryz.prog 152 = some (1, .nilf) := by kernel_rfl
theorem sz171 : sz Tryz.prog 171 = some 1 := by kernel_rfl
theorem ag171 : ag Tryz.prog 171 = false := by kernel_rfl
theorem byt171 : byt Tryz.prog 171 = some 0 := by kernel_rfl
theorem zro171 : zro Tryz.prog 171 = some [.undef] := by kernel_rfl
theorem sz177 : sz Tryz.prog 177 = some 1 := by kernel_rfl
theorem ag177 : ag Tryz.prog 177 = false := by kernel_rfl
theorem byt177 : byt Tryz.prog 177 = some 8 := by kernel_rfl
theorem zro177 : zro Tryz.prog 177 = some [.nilf] := by kernel_rfl
theorem zeroRow177 : zeroRow Tryz.prog 177 = some (1, .nilf) := by kernel_rfl
theorem sz181 : sz Tryz.prog 181 = some 1 := by kernel_rfl
theorem ag181 : ag Tryz.prog 181 = false := by kernel_rfl
theorem byt181 : byt Tryz.prog 181 = some 8 := by kernel_rfl
theorem zro181 : zro Tryz.prog 181 = some [.nilf] := by kernel_rfl
theorem zeroRow181 : zeroRow Tryz.prog 181 = some (1, .nilf) := by kernel_rfl
theorem sz189 : sz Tryz.prog 189 = some 1 := by kernel_rfl
theorem ag189 : ag Tryz.prog 189 = false := by kernel_rfl
theorem byt189 : byt Tryz.prog 189 = some 8 := by kernel_rfl
theorem zro189 : zro Tryz.prog 189 = some [.nilf] := by kernel_rfl
theorem zeroRow189 : zeroRow Tryz.prog 189 = some (1, .nilf) := by kernel_rfl
theorem sz190 : sz Tryz.prog 190 = some 1 := by kernel_rfl
theorem ag190 : ag Tryz.prog 190 = false := by kernel_rfl
theorem byt190 : byt Tryz.prog 190 = some 8 := by kernel_rfl
theorem zro190 : zro Tryz.prog 190 = some [.nilf] := by kernel_rfl
theorem zeroRow190 : zeroRow Tryz.prog 190 = some (1, .nilf) := by kernel_rfl
theorem sz194 : sz Tryz.prog 194 = some 1 := by kernel_rfl
theorem ag194 : ag Tryz.prog 194 = false := by kernel_rfl
theorem byt194 : byt Tryz.prog 194 = some 8 := by kernel_rfl
theorem zro194 : zro Tryz.prog 194 = some [.nilp] := by kernel_rfl
theorem zeroRow194 : zeroRow Tryz.prog 194 = some (1, .nilp) := by kernel_rfl
theorem sz197 : sz Tryz.prog 197 = some 1 := by kernel_rfl
theorem ag197 : ag Tryz.prog 197 = false := by kernel_rfl
theorem byt197 : byt Tryz.prog 197 = some 0 := by kernel_rfl
theorem zro197 : zro Tryz.prog 197 = some [.undef] := by kernel_rfl
theorem sz200 : sz Tryz.prog 200 = some 1 := by kernel_rfl
theorem ag200 : ag Tryz.prog 200 = false := by kernel_rfl
theorem byt200 : byt Tryz.prog 200 = some 8 := by kernel_rfl
theorem zro200 : zro Tryz.prog 200 = some [.nilf] := by kernel_rfl
theorem zeroRow200 : zeroRow Tryz.prog 200 = some (1, .nilf) := by kernel_rfl
theorem sz207 : sz Tryz.prog 207 = some 1 := by kernel_rfl
theorem ag207 : ag Tryz.prog 207 = false := by kernel_rfl
theorem byt207 : byt Tryz.prog 207 = some 8 := by kernel_rfl
theorem zro207 : zro Tryz.prog 207 = some [(.int .u64 0)] := by kernel_rfl
theorem zeroRow207 : zeroRow Tryz.prog 207 = some (1, (.int .u64 0)) := by kernel_rfl
theorem sz211 : sz Tryz.prog 211 = some 1 := by kernel_rfl
theorem ag211 : ag Tryz.prog 211 = false := by kernel_rfl
theorem byt211 : byt Tryz.prog 211 = some 8 := by kernel_rfl
theorem zro211 : zro Tryz.prog 211 = some [.nilm] := by kernel_rfl
theorem zeroRow211 : zeroRow Tryz.prog 211 = some (1, .nilm) := by kernel_rfl
theorem sz213 : sz Tryz.prog 213 = some 1 := by kernel_rfl
theorem ag213 : ag Tryz.prog 213 = false := by kernel_rfl
theorem byt213 : byt Tryz.prog 213 = some 0 := by kernel_rfl
theorem zro213 : zro Tryz.prog 213 = some [.undef] := by kernel_rfl
theorem sz222 : sz Tryz.prog 222 = some 256 := by kernel_rfl
theorem ag222 : ag Tryz.prog 222 = true := by kernel_rfl
theorem byt222 : byt Tryz.prog 222 = some 256 := by kernel_rfl
theorem sz224 : sz Tryz.prog 224 = some 2 := by kernel_rfl
theorem ag224 : ag Tryz.prog 224 = true := by kernel_rfl
theorem byt224 : byt Tryz.prog 224 = some 2 := by kernel_rfl
theorem zro224 : zro Tryz.prog 224 = some [(.int .u8 0), (.int .u8 0)] := by kernel_rfl
theorem zeroRow224 : zeroRow Tryz.prog 224 = some (2, (.agg [(.int .u8 0), (.int .u8 0)])) := by kernel_rfl
theorem fld224_0 : fld Tryz.prog 224 0 = some (0, 1, 5) := by kernel_rfl
theorem ptOf224_0 : ptOf Tryz.prog 224 0 = 5 := by kernel_rfl
theorem fld224_1 : fld Tryz.prog 224 1 = some (1, 1, 5) := by kernel_rfl
theorem ptOf224_1 : ptOf Tryz.prog 224 1 = 5 := by kernel_rfl
theorem places224 : places Tryz.prog 224 = some [(0, 1), (1, 1)] := by kernel_rfl
theorem aeq224 (a0 : Int) (a1 : Int) (b0 : Int) (b1 : Int) : aeq Tryz.prog 9 224 (.agg [.int .u8 a0, .int .u8 a1]) (.agg [.int .u8 b0, .int .u8 b1]) = some (((a0 == b0) && ((a1 == b1) && true))) := by kernel_rfl
theorem sz225 : sz Tryz.prog 225 = some 32 := by kernel_rfl
theorem ag225 : ag Tryz.prog 225 = true := by kernel_rfl
theorem byt225 : byt Tryz.prog 225 = some 32 := by kernel_rfl
theorem zro225 : zro Tryz.prog 225 = some [(.int .u8 0), (.int .u8 0), (.int .u8 0), (.int .u8 0), (.int .u8 0), (.int .u8 0), (.int .u8 0), (.int .u8 0), (.int .u8 0), (.int .u8 0), (.int .u8 0), (.int .u8 0), (.int .u8 0), (.int .u8 0), (.int .u8 0), (.int .u8 0), (.int .u8 0), (.int .u8 0), (.int .u8 0), (.int .u8 0), (.int .u8 0), (.int .u8 0), (.int .u8 0), (.int .u8 0), (.int .u8 0), (.int .u8 0), (.int .u8 0), (.int .u8 0), (.int .u8 0), (.int .u8 0), (.int .u8 0), (.int .u8 0)] := by kernel_rfl
theorem zeroRow225 : zeroRow Tryz.prog 225 = some (32, (.agg [(.int .u8 0), (.int .u8 0), (.int .u8 0), (.int .u8 0), (.int .u8 0), (.int .u8 0), (.int .u8 0), (.int .u8 0), (.int .u8 0), (.int .u8 0), (.int .u8 0), (.int .u8 0), (.int .u8 0), (.int .u8 0), (.int .u8 0), (.int .u8 0), (.int .u8 0), (.int .u8 0), (.int .u8 0), (.int .u8 0), (.int .u8 0), (.int .u8 0), (.int .u8 0), (.int .u8 0), (.int .u8 0), (.int .u8 0), (.int .u8 0), (.int .u8 0), (.int .u8 0), (.int .u8 0), (.int .u8 0), (.int .u8 0)])) := by kernel_rfl
theorem sz226 : sz Tryz.prog 226 = some 1 := by kernel_rfl
theorem ag226 : ag Tryz.prog 226 = false := by kernel_rfl
theorem byt226 : byt Tryz.prog 226 = some 8 := by kernel_rfl
theorem zro226 : zro Tryz.prog 226 = some [(.int .u64 0)] := by kernel_rfl
theorem zeroRow226 : zeroRow Tryz.prog 226 = some (1, (.int .u64 0)) := by kernel_rfl
theorem sz228 : sz Tryz.prog 228 = some 7 := by kernel_rfl
theorem ag228 : ag Tryz.prog 228 = true := by kernel_rfl
theorem byt228 : byt Tryz.prog 228 = some 56 := by kernel_rfl
theorem zro228 : zro Tryz.prog 228 = some [(.int .i64 0), (.int .i64 0), (.int .i64 0), (.int .i64 0), (.int .i64 0), (.int .i64 0), (.int .i64 0)] := by kernel_rfl
theorem zeroRow228 : zeroRow Tryz.prog 228 = some (7, (.agg [(.int .i64 0), (.int .i64 0), (.int .i64 0), (.int .i64 0), (.int .i64 0), (.int .i64 0), (.int .i64 0)])) := by kernel_rfl
theorem sz233 : sz Tryz.prog 233 = some 1 := by kernel_rfl
theorem ag233 : ag Tryz.prog 233 = false := by kernel_rfl
theorem byt233 : byt Tryz.prog 233 = some 8 := by kernel_rfl
theorem zro233 : zro Tryz.prog 233 = some [.nilf] := by kernel_rfl
theorem zeroRow233 : zeroRow Tryz.prog 233 = some (1, .nilf) := by kernel_rfl
theorem sz235 : sz Tryz.prog 235 = some 1 := by kernel_rfl
theorem ag235 : ag Tryz.prog 235 = true := by kernel_rfl
theorem byt235 : byt Tryz.prog 235 = some 8 := by kernel_rfl
theorem zro235 : zro Tryz.prog 235 = some [.nilf] := by kernel_rfl
theorem zeroRow235 : zeroRow Tryz.prog 235 = some (1, (.agg [.nilf])) := by kernel_rfl
theorem fld235_0 : fld Tryz.prog 235 0 = some (0, 1, 233) := by kernel_rfl
theorem ptOf235_0 : ptOf Tryz.prog 235 0 = 233 := by kernel_rfl
theorem places235 : places Tryz.prog 235 = some [(0, 1)] := by kernel_rfl
theorem sz236 : sz Tryz.prog 236 = some 6 := by kernel_rfl
theorem ag236 : ag Tryz.prog 236 = true := by kernel_rfl
theorem byt236 : byt Tryz.prog 236 = some 48 := by kernel_rfl
theorem zro236 : zro Tryz.prog 236 = some [(.int .i64 0), (.int .i64 0), (.int .i64 0), (.int .i64 0), (.int .i64 0), (.int .i64 0)] := by kernel_rfl
theorem zeroRow236 : zeroRow Tryz.prog 236 = some (6, (.agg [(.int .i64 0), (.int .i64 0), (.int .i64 0), (.int .i64 0), (.int .i64 0), (.int .i64 0)])) := by kernel_rfl
theorem sz237 : sz Tryz.prog 237 = some 1 := by kernel_rfl
theorem ag237 : ag Tryz.prog 237 = false := by kernel_rfl
theorem byt237 : byt Tryz.prog 237 = some 0 := by kernel_rfl
theorem zro237 : zro Tryz.prog 237 = some [.undef] := by kernel_rfl
theorem eqg27 : Tryz.prog.eqGuardType Tryz.prog.depth 27 = false := by kernel_rfl
theorem eqg32 : Tryz.prog.eqGuardType Tryz.prog.depth 32 = false := by kernel_rfl
theorem eqg51 : Tryz.prog.eqGuardType Tryz.prog.depth 51 = false := by kernel_rfl
theorem eqg78 : Tryz.prog.eqGuardType Tryz.prog.depth 78 = false := by kernel_rfl
theorem eqg86 : Tryz.prog.eqGuardType Tryz.prog.depth 86 = false := by kernel_rfl
theorem eqg107 : Tryz.prog.eqGuardType Tryz.prog.depth 107 = false := by kernel_rfl
theorem eqg109 : Tryz.prog.eqGuardType Tryz.prog.depth 109 = false := by kernel_rfl
theorem eqg137 : Tryz.prog.eqGuardType Tryz.prog.depth 137 = false := by kernel_rfl
theorem eqg224 : Tryz.prog.eqGuardType Tryz.prog.depth 224 = false := by kernel_rfl
theorem mutOf52 : mutOf gl 52 = .full := rfl
theorem mutOf53 : mutOf gl 53 = .full := rfl
theorem mutOf54 : mutOf gl 54 = .full := rfl
theorem mutOf81 : mutOf gl 81 = .full := rfl
theorem mutOf88 : mutOf gl 88 = .full := rfl
theorem mutOf146 : mutOf gl 146 = .full := rfl
theorem mutOf22 : mutOf gl 22 = .mut := rfl
theorem mutOf23 : mutOf gl 23 = .mut := rfl
theorem mutOf28 : mutOf gl 28 = .mut := rfl
theorem mutOf29 : mutOf gl 29 = .mut := rfl
theorem mutOf30 : mutOf gl 30 = .mut := rfl
theorem mutOf41 : mutOf gl 41 = .mut := rfl
theorem mutOf42 : mutOf gl 42 = .mut := rfl
theorem mutOf45 : mutOf gl 45 = .mut := rfl
theorem mutOf58 : mutOf gl 58 = .mut := rfl
theorem gl_1 : gl 1 = some [gu 128, gu 191, gu 160, gu 191, gu 128, gu 159, gu 144, gu 191, gu 128, gu 143, gu 0, gu 0, gu 0, gu 0, gu 0, gu 0, gu 0, gu 0, gu 0, gu 0, gu 0, gu 0, gu 0, gu 0, gu 0, gu 0, gu 0, gu 0, gu 0, gu 0, gu 0, gu 0] := rfl
theorem gl_2 : gl 2 = some [.int .i64 0, .int .i64 2, .int .i64 4, .int .i64 5, .int .i64 7, .int .i64 9, .int .i64 11] := rfl
theorem gl_3 : gl 3 = some [.int .i64 1, .int .i64 1, .int .i64 3, .int .i64 2, .int .i64 7, .int .i64 4] := rfl
/-- All of them. -/
theorem facts : type_of% (And.intro (And.intro (And.intro (And.intro (And.intro (And.intro (And.intro (And.intro (And.intro @sz0 @ag0) (And.intro @byt0 (And.intro @zro0 @sz3))) (And.intro (And.intro @ag3 (And.intro @byt3 @zro3)) (And.intro @zeroRow3 (And.intro @sz4 @ag4)))) (And.intro (And.intro (And.intro @byt4 @zro4) (And.intro @zeroRow4 (And.intro @sz5 @ag5))) (And.intro (And.intro @byt5 (And.intro @zro5 @zeroRow5)) (And.intro @sz9 (And.intro @ag9 @byt9))))) (And.intro (And.intro (And.intro (And.intro @zro9 @zeroRow9) (And.intro @sz12 (And.intro @ag12 @byt12))) (And.intro (And.intro @zro12 (And.intro @zeroRow12 @sz20)) (And.intro @ag20 (And.intro @byt20 @zro20)))) (And.intro (And.intro (And.intro @zeroRow20 @sz21) (And.intro @ag21 (And.intro @byt21 @zro21))) (And.intro (And.intro @zeroRow21 (And.intro @sz22 @ag22)) (And.intro @byt22 (And.intro @zro22 @zeroRow22)))))) (And.intro (And.intro (And.intro (And.intro (And.intro @elt22 @kOf22) (And.intro @ptOf22_0 (And.intro @sz23 @ag23))) (And.intro (And.intro @byt23 (And.intro @zro23 @zeroRow23)) (And.intro @elt23 (And.intro @kOf23 @ptOf23_0)))) (And.intro (And.intro (And.intro @sz25 @ag25) (And.intro @byt25 (And.intro @zro25 @zeroRow25))) (And.intro (And.intro @fld25_0 (And.intro @ptOf25_0 @fld25_1)) (And.intro @ptOf25_1 (And.intro @fld25_2 @ptOf25_2))))) (And.intro (And.intro (And.intro (And.intro @places25 @sz27) (And.intro @ag27 (And.intro @byt27 @zro27))) (And.intro (And.intro @zeroRow27 (And.intro @fld27_0 @ptOf27_0)) (And.intro @fld27_1 (And.intro @ptOf27_1 @fld27_2)))) (And.intro (And.intro (And.intro @ptOf27_2 (And.intro @fld27_3 @ptOf27_3)) (And.intro @places27 (And.intro @aeq27 @sz28))) (And.intro (And.intro @ag28 (And.intro @byt28 @zro28)) (And.intro @zeroRow28 (And.intro @elt28 @kOf28))))))) (And.intro (And.intro (And.intro (And.intro (And.intro (And.intro @ptOf28_0 @sz29) (And.intro @ag29 (And.intro @byt29 @zro29))) (And.intro (And.intro @zeroRow29 (And.intro @elt29 @kOf29)) (And.intro @ptOf29_0 (And.intro @sz30 @ag30)))) (And.intro (And.intro (And.intro @byt30 @zro30) (And.intro @zeroRow30 (And.intro @elt30 @kOf30))) (And.intro (And.intro @ptOf30_0 (And.intro @sz32 @ag32)) (And.intro @byt32 (And.intro @zro32 @zeroRow32))))) (And.intro (And.intro (And.intro (And.intro @fld32_0 @ptOf32_0) (And.intro @fld32_1 (And.intro @ptOf32_1 @places32))) (And.intro (And.intro @aeq32 (And.intro @sz34 @ag34)) (And.intro @byt34 (And.intro @zro34 @zeroRow34)))) (And.intro (And.intro (And.intro @fld34_0 (And.intro @ptOf34_0 @fld34_1)) (And.intro @ptOf34_1 (And.intro @fld34_2 @ptOf34_2))) (And.intro (And.intro @fld34_3 (And.intro @ptOf34_3 @fld34_4)) (And.intro @ptOf34_4 (And.intro @fld34_5 @ptOf34_5)))))) (And.intro (And.intro (And.intro (And.intro (And.intro @fld34_6 @ptOf34_6) (And.intro @fld34_7 (And.intro @ptOf34_7 @fld34_8))) (And.intro (And.intro @ptOf34_8 (And.intro @places34 @sz38)) (And.intro @ag38 (And.intro @byt38 @zro38)))) (And.intro (And.intro (And.intro @zeroRow38 @sz39) (And.intro @ag39 (And.intro @byt39 @zro39))) (And.intro (And.intro @sz41 (And.intro @ag41 @byt41)) (And.intro @zro41 (And.intro @zeroRow41 @elt41))))) (And.intro (And.intro (And.intro (And.intro @kOf41 @ptOf41_0) (And.intro @sz42 (And.intro @ag42 @byt42))) (And.intro (And.intro @zro42 (And.intro @zeroRow42 @elt42)) (And.intro @kOf42 (And.intro @ptOf42_0 @sz44)))) (And.intro (And.intro (And.intro @ag44 (And.intro @byt44 @zro44)) (And.intro @zeroRow44 (And.intro @fld44_0 @ptOf44_0))) (And.intro (And.intro @fld44_1 (And.intro @ptOf44_1 @fld44_2)) (And.intro @ptOf44_2 (And.intro @fld44_3 @ptOf44_3)))))))) (And.intro (And.intro (And.intro (And.intro (And.intro (And.intro (And.intro @fld44_4 @ptOf44_4) (And.intro @places44 (And.intro @sz45 @ag45))) (And.intro (And.intro @byt45 (And.intro @zro45 @zeroRow45)) (And.intro @elt45 (And.intro @kOf45 @ptOf45_0)))) (And.intro (And.intro (And.intro @sz47 @ag47) (And.intro @byt47 (And.intro @zro47 @zeroRow47))) (And.intro (And.intro @fld47_0 (And.intro @ptOf47_0 @places47)) (And.intro @sz51 (And.intro @ag51 @byt51))))) (And.intro (And.intro (And.intro (And.intro @zro51 @zeroRow51) (And.intro @fld51_0 (And.intro @ptOf51_0 @fld51_1))) (And.intro (And.intro @ptOf51_1 (And.intro @fld51_2 @ptOf51_2)) (And.intro @fld51_3 (And.intro @ptOf51_3 @places51)))) (And.intro (And.intro (And.intro @aeq51 @sz52) (And.intro @ag52 (And.intro @byt52 @zro52))) (And.intro (And.intro @zeroRow52 (And.intro @elt52 @kOf52)) (And.intro @ptOf52_0 (And.intro @sz53 @ag53)))))) (And.intro (And.intro (And.intro (And.intro (And.intro @byt53 @zro53) (And.intro @zeroRow53 (And.intro @elt53 @kOf53))) (And.intro (And.intro @ptOf53_0 (And.intro @sz54 @ag54)) (And.intro @byt54 (And.intro @zro54 @zeroRow54)))) (And.intro (And.intro (And.intro @elt54 @kOf54) (And.intro @ptOf54_0 (And.intro @sz56 @ag56))) (And.intro (And.intro @byt56 (And.intro @zro56 @zeroRow56)) (And.intro @fld56_0 (And.intro @ptOf56_0 @fld56_1))))) (And.intro (And.intro (And.intro (And.intro @ptOf56_1 @fld56_2) (And.intro @ptOf56_2 (And.intro @fld56_3 @ptOf56_3))) (And.intro (And.intro @fld56_4 (And.intro @ptOf56_4 @fld56_5)) (And.intro @ptOf56_5 (And.intro @places56 @sz58)))) (And.intro (And.intro (And.intro @ag58 (And.intro @byt58 @zro58)) (And.intro @zeroRow58 (And.intro @elt58 @kOf58))) (And.intro (And.intro @ptOf58_0 (And.intro @sz59 @ag59)) (And.intro @byt59 (And.intro @zro59 @sz62))))))) (And.intro (And.intro (And.intro (And.intro (And.intro (And.intro @ag62 @byt62) (And.intro @zro62 (And.intro @zeroRow62 @sz63))) (And.intro (And.intro @ag63 (And.intro @byt63 @zro63)) (And.intro @zeroRow63 (And.intro @sz65 @ag65)))) (And.intro (And.intro (And.intro @byt65 @zro65) (And.intro @sz67 (And.intro @ag67 @byt67))) (And.intro (And.intro @zro67 (And.intro @zeroRow67 @sz70)) (And.intro @ag70 (And.intro @byt70 @zro70))))) (And.intro (And.intro (And.intro (And.intro @zeroRow70 @fld70_0) (And.intro @ptOf70_0 (And.intro @fld70_1 @ptOf70_1))) (And.intro (And.intro @fld70_2 (And.intro @ptOf70_2 @places70)) (And.intro @sz71 (And.intro @ag71 @byt71)))) (And.intro (And.intro (And.intro @zro71 (And.intro @zeroRow71 @sz72)) (And.intro @ag72 (And.intro @byt72 @zro72))) (And.intro (And.intro @zeroRow72 (And.intro @sz73 @ag73)) (And.intro @byt73 (And.intro @zro73 @sz76)))))) (And.intro (And.intro (And.intro (And.intro (And.intro @ag76 @byt76) (And.intro @zro76 (And.intro @zeroRow76 @fld76_0))) (And.intro (And.intro @ptOf76_0 (And.intro @fld76_1 @ptOf76_1)) (And.intro @fld76_2 (And.intro @ptOf76_2 @places76)))) (And.intro (And.intro (And.intro @sz78 @ag78) (And.intro @byt78 (And.intro @zro78 @zeroRow78))) (And.intro (And.intro @fld78_0 (And.intro @ptOf78_0 @fld78_1)) (And.intro @ptOf78_1 (And.intro @places78 @aeq78))))) (And.intro (And.intro (And.intro (And.intro @sz80 @ag80) (And.intro @byt80 (And.intro @zro80 @zeroRow80))) (And.intro (And.intro @fld80_0 (And.intro @ptOf80_0 @fld80_1)) (And.intro @ptOf80_1 (And.intro @fld80_2 @ptOf80_2)))) (And.intro (And.intro (And.intro @fld80_3 (And.intro @ptOf80_3 @fld80_4)) (And.intro @ptOf80_4 (And.intro @fld80_5 @ptOf80_5))) (And.intro (And.intro @fld80_6 (And.intro @ptOf80_6 @fld80_7)) (And.intro @ptOf80_7 (And.intro @places80 @sz81))))))))) (And.intro (And.intro (And.intro (And.intro (And.intro (And.intro (And.intro (And.intro @ag81 @byt81) (And.intro @zro81 (And.intro @zeroRow81 @elt81))) (And.intro (And.intro @kOf81 (And.intro @ptOf81_0 @sz83)) (And.intro @ag83 (And.intro @byt83 @zro83)))) (And.intro (And.intro (And.intro @zeroRow83 @fld83_0) (And.intro @ptOf83_0 (And.intro @fld83_1 @ptOf83_1))) (And.intro (And.intro @fld83_2 (And.intro @ptOf83_2 @fld83_3)) (And.intro @ptOf83_3 (And.intro @places83 @sz86))))) (And.intro (And.intro (And.intro (And.intro @ag86 @byt86) (And.intro @zro86 (And.intro @zeroRow86 @fld86_0))) (And.intro (And.intro @ptOf86_0 (And.intro @fld86_1 @ptOf86_1)) (And.intro @fld86_2 (And.intro @ptOf86_2 @places86)))) (And.intro (And.intro (And.intro @aeq86 @sz88) (And.intro @ag88 (And.intro @byt88 @zro88))) (And.intro (And.intro @zeroRow88 (And.intro @elt88 @kOf88)) (And.intro @ptOf88_0 (And.intro @sz89 @ag89)))))) (And.intro (And.intro (And.intro (And.intro (And.intro @byt89 @zro89) (And.intro @zeroRow89 (And.intro @sz94 @ag94))) (And.intro (And.intro @byt94 (And.intro @zro94 @zeroRow94)) (And.intro @sz95 (And.intro @ag95 @byt95)))) (And.intro (And.intro (And.intro @zro95 @zeroRow95) (And.intro @sz97 (And.intro @ag97 @byt97))) (And.intro (And.intro @zro97 (And.intro @sz103 @ag103)) (And.intro @byt103 (And.intro @zro103 @zeroRow103))))) (And.intro (And.intro (And.intro (And.intro @sz105 @ag105) (And.intro @byt105 (And.intro @zro105 @zeroRow105))) (And.intro (And.intro @sz107 (And.intro @ag107 @byt107)) (And.intro @zro107 (And.intro @zeroRow107 @fld107_0)))) (And.intro (And.intro (And.intro @ptOf107_0 (And.intro @fld107_1 @ptOf107_1)) (And.intro @places107 (And.intro @aeq107 @sz109))) (And.intro (And.intro @ag109 (And.intro @byt109 @zro109)) (And.intro @zeroRow109 (And.intro @fld109_0 @ptOf109_0))))))) (And.intro (And.intro (And.intro (And.intro (And.intro (And.intro @fld109_1 @ptOf109_1) (And.intro @fld109_2 (And.intro @ptOf109_2 @places109))) (And.intro (And.intro @aeq109 (And.intro @sz110 @ag110)) (And.intro @byt110 (And.intro @zro110 @zeroRow110)))) (And.intro (And.intro (And.intro @sz111 @ag111) (And.intro @byt111 (And.intro @zro111 @zeroRow111))) (And.intro (And.intro @sz113 (And.intro @ag113 @byt113)) (And.intro @zro113 (And.intro @zeroRow113 @sz114))))) (And.intro (And.intro (And.intro (And.intro @ag114 @byt114) (And.intro @zro114 (And.intro @zeroRow114 @sz121))) (And.intro (And.intro @ag121 (And.intro @byt121 @zro121)) (And.intro @zeroRow121 (And.intro @sz129 @ag129)))) (And.intro (And.intro (And.intro @byt129 (And.intro @zro129 @zeroRow129)) (And.intro @sz133 (And.intro @ag133 @byt133))) (And.intro (And.intro @zro133 (And.intro @sz137 @ag137)) (And.intro @byt137 (And.intro @zro137 @zeroRow137)))))) (And.intro (And.intro (And.intro (And.intro (And.intro @fld137_0 @ptOf137_0) (And.intro @fld137_1 (And.intro @ptOf137_1 @fld137_2))) (And.intro (And.intro @ptOf137_2 (And.intro @places137 @aeq137)) (And.intro @sz140 (And.intro @ag140 @byt140)))) (And.intro (And.intro (And.intro @zro140 @sz142) (And.intro @ag142 (And.intro @byt142 @zro142))) (And.intro (And.intro @zeroRow142 (And.intro @sz143 @ag143)) (And.intro @byt143 (And.intro @zro143 @zeroRow143))))) (And.intro (And.intro (And.intro (And.intro @sz146 @ag146) (And.intro @byt146 (And.intro @zro146 @zeroRow146))) (And.intro (And.intro @elt146 (And.intro @kOf146 @ptOf146_0)) (And.intro @sz149 (And.intro @ag149 @byt149)))) (And.intro (And.intro (And.intro @zro149 (And.intro @sz152 @ag152)) (And.intro @byt152 (And.intro @zro152 @zeroRow152))) (And.intro (And.intro @sz171 (And.intro @ag171 @byt171)) (And.intro @zro171 (And.intro @sz177 @ag177)))))))) (And.intro (And.intro (And.intro (And.intro (And.intro (And.intro (And.intro @byt177 @zro177) (And.intro @zeroRow177 (And.intro @sz181 @ag181))) (And.intro (And.intro @byt181 (And.intro @zro181 @zeroRow181)) (And.intro @sz189 (And.intro @ag189 @byt189)))) (And.intro (And.intro (And.intro @zro189 @zeroRow189) (And.intro @sz190 (And.intro @ag190 @byt190))) (And.intro (And.intro @zro190 (And.intro @zeroRow190 @sz194)) (And.intro @ag194 (And.intro @byt194 @zro194))))) (And.intro (And.intro (And.intro (And.intro @zeroRow194 @sz197) (And.intro @ag197 (And.intro @byt197 @zro197))) (And.intro (And.intro @sz200 (And.intro @ag200 @byt200)) (And.intro @zro200 (And.intro @zeroRow200 @sz207)))) (And.intro (And.intro (And.intro @ag207 @byt207) (And.intro @zro207 (And.intro @zeroRow207 @sz211))) (And.intro (And.intro @ag211 (And.intro @byt211 @zro211)) (And.intro @zeroRow211 (And.intro @sz213 @ag213)))))) (And.intro (And.intro (And.intro (And.intro (And.intro @byt213 @zro213) (And.intro @sz222 (And.intro @ag222 @byt222))) (And.intro (And.intro @sz224 (And.intro @ag224 @byt224)) (And.intro @zro224 (And.intro @zeroRow224 @fld224_0)))) (And.intro (And.intro (And.intro @ptOf224_0 @fld224_1) (And.intro @ptOf224_1 (And.intro @places224 @aeq224))) (And.intro (And.intro @sz225 (And.intro @ag225 @byt225)) (And.intro @zro225 (And.intro @zeroRow225 @sz226))))) (And.intro (And.intro (And.intro (And.intro @ag226 @byt226) (And.intro @zro226 (And.intro @zeroRow226 @sz228))) (And.intro (And.intro @ag228 (And.intro @byt228 @zro228)) (And.intro @zeroRow228 (And.intro @sz233 @ag233)))) (And.intro (And.intro (And.intro @byt233 (And.intro @zro233 @zeroRow233)) (And.intro @sz235 (And.intro @ag235 @byt235))) (And.intro (And.intro @zro235 (And.intro @zeroRow235 @fld235_0)) (And.intro @ptOf235_0 (And.intro @places235 @sz236))))))) (And.intro (And.intro (And.intro (And.intro (And.intro (And.intro @ag236 @byt236) (And.intro @zro236 (And.intro @zeroRow236 @sz237))) (And.intro (And.intro @ag237 (And.intro @byt237 @zro237)) (And.intro @eqg27 (And.intro @eqg32 @eqg51)))) (And.intro (And.intro (And.intro @eqg78 @eqg86) (And.intro @eqg107 (And.intro @eqg109 @eqg137))) (And.intro (And.intro @eqg224 (And.intro @mutOf52 @mutOf53)) (And.intro @mutOf54 (And.intro @mutOf81 @mutOf88))))) (And.intro (And.intro (And.intro (And.intro @mutOf146 @mutOf22) (And.intro @mutOf23 (And.intro @mutOf28 @mutOf29))) (And.intro (And.intro @mutOf30 (And.intro @mutOf41 @mutOf42)) (And.intro @mutOf45 (And.intro @mutOf58 @Tryz.underlying3)))) (And.intro (And.intro (And.intro @Tryz.underlying4 (And.intro @Tryz.underlying5 @Tryz.underlying9)) (And.intro @Tryz.underlying12 (And.intro @Tryz.underlying21 @Tryz.underlying22))) (And.intro (And.intro @Tryz.underlying23 (And.intro @Tryz.underlying25 @Tryz.underlying27)) (And.intro @Tryz.underlying28 (And.intro @Tryz.underlying29 @Tryz.underlying30)))))) (And.intro (And.intro (And.intro (And.intro (And.intro @Tryz.underlying32 @Tryz.underlying34) (And.intro @Tryz.underlying38 (And.intro @Tryz.underlying41 @Tryz.underlying42))) (And.intro (And.intro @Tryz.underlying44 (And.intro @Tryz.underlying45 @Tryz.underlying47)) (And.intro @Tryz.underlying51 (And.intro @Tryz.underlying52 @Tryz.underlying53)))) (And.intro (And.intro (And.intro @Tryz.underlying54 @Tryz.underlying56) (And.intro @Tryz.underlying58 (And.intro @Tryz.underlying67 @Tryz.underlying70))) (And.intro (And.intro @Tryz.underlying72 (And.intro @Tryz.underlying76 @Tryz.underlying78)) (And.intro @Tryz.underlying80 (And.intro @Tryz.underlying81 @Tryz.underlying83))))) (And.intro (And.intro (And.intro (And.intro @Tryz.underlying86 @Tryz.underlying88) (And.intro @Tryz.underlying107 (And.intro @Tryz.underlying109 @Tryz.underlying111))) (And.intro (And.intro @Tryz.underlying114 (And.intro @Tryz.underlying121 @Tryz.underlying129)) (And.intro @Tryz.underlying137 (And.intro @Tryz.underlying146 @Tryz.underlying194)))) (And.intro (And.intro (And.intro @Tryz.underlying207 (And.intro @Tryz.underlying211 @Tryz.underlying222)) (And.intro @Tryz.underlying224 (And.intro @Tryz.underlying225 @Tryz.underlying226))) (And.intro (And.intro @Tryz.underlying228 (And.intro @Tryz.underlying235 @Tryz.underlying236)) (And.intro @gl_1 (And.intro @gl_2 @gl_3)))))))))) :=
  (And.intro (And.intro (And.intro (And.intro (And.intro (And.intro (And.intro (And.intro (And.intro @sz0 @ag0) (And.intro @byt0 (And.intro @zro0 @sz3))) (And.intro (And.intro @ag3 (And.intro @byt3 @zro3)) (And.intro @zeroRow3 (And.intro @sz4 @ag4)))) (And.intro (And.intro (And.intro @byt4 @zro4) (And.intro @zeroRow4 (And.intro @sz5 @ag5))) (And.intro (And.intro @byt5 (And.intro @zro5 @zeroRow5)) (And.intro @sz9 (And.intro @ag9 @byt9))))) (And.intro (And.intro (And.intro (And.intro @zro9 @zeroRow9) (And.intro @sz12 (And.intro @ag12 @byt12))) (And.intro (And.intro @zro12 (And.intro @zeroRow12 @sz20)) (And.intro @ag20 (And.intro @byt20 @zro20)))) (And.intro (And.intro (And.intro @zeroRow20 @sz21) (And.intro @ag21 (And.intro @byt21 @zro21))) (And.intro (And.intro @zeroRow21 (And.intro @sz22 @ag22)) (And.intro @byt22 (And.intro @zro22 @zeroRow22)))))) (And.intro (And.intro (And.intro (And.intro (And.intro @elt22 @kOf22) (And.intro @ptOf22_0 (And.intro @sz23 @ag23))) (And.intro (And.intro @byt23 (And.intro @zro23 @zeroRow23)) (And.intro @elt23 (And.intro @kOf23 @ptOf23_0)))) (And.intro (And.intro (And.intro @sz25 @ag25) (And.intro @byt25 (And.intro @zro25 @zeroRow25))) (And.intro (And.intro @fld25_0 (And.intro @ptOf25_0 @fld25_1)) (And.intro @ptOf25_1 (And.intro @fld25_2 @ptOf25_2))))) (And.intro (And.intro (And.intro (And.intro @places25 @sz27) (And.intro @ag27 (And.intro @byt27 @zro27))) (And.intro (And.intro @zeroRow27 (And.intro @fld27_0 @ptOf27_0)) (And.intro @fld27_1 (And.intro @ptOf27_1 @fld27_2)))) (And.intro (And.intro (And.intro @ptOf27_2 (And.intro @fld27_3 @ptOf27_3)) (And.intro @places27 (And.intro @aeq27 @sz28))) (And.intro (And.intro @ag28 (And.intro @byt28 @zro28)) (And.intro @zeroRow28 (And.intro @elt28 @kOf28))))))) (And.intro (And.intro (And.intro (And.intro (And.intro (And.intro @ptOf28_0 @sz29) (And.intro @ag29 (And.intro @byt29 @zro29))) (And.intro (And.intro @zeroRow29 (And.intro @elt29 @kOf29)) (And.intro @ptOf29_0 (And.intro @sz30 @ag30)))) (And.intro (And.intro (And.intro @byt30 @zro30) (And.intro @zeroRow30 (And.intro @elt30 @kOf30))) (And.intro (And.intro @ptOf30_0 (And.intro @sz32 @ag32)) (And.intro @byt32 (And.intro @zro32 @zeroRow32))))) (And.intro (And.intro (And.intro (And.intro @fld32_0 @ptOf32_0) (And.intro @fld32_1 (And.intro @ptOf32_1 @places32))) (And.intro (And.intro @aeq32 (And.intro @sz34 @ag34)) (And.intro @byt34 (And.intro @zro34 @zeroRow34)))) (And.intro (And.intro (And.intro @fld34_0 (And.intro @ptOf34_0 @fld34_1)) (And.intro @ptOf34_1 (And.intro @fld34_2 @ptOf34_2))) (And.intro (And.intro @fld34_3 (And.intro @ptOf34_3 @fld34_4)) (And.intro @ptOf34_4 (And.intro @fld34_5 @ptOf34_5)))))) (And.intro (And.intro (And.intro (And.intro (And.intro @fld34_6 @ptOf34_6) (And.intro @fld34_7 (And.intro @ptOf34_7 @fld34_8))) (And.intro (And.intro @ptOf34_8 (And.intro @places34 @sz38)) (And.intro @ag38 (And.intro @byt38 @zro38)))) (And.intro (And.intro (And.intro @zeroRow38 @sz39) (And.intro @ag39 (And.intro @byt39 @zro39))) (And.intro (And.intro @sz41 (And.intro @ag41 @byt41)) (And.intro @zro41 (And.intro @zeroRow41 @elt41))))) (And.intro (And.intro (And.intro (And.intro @kOf41 @ptOf41_0) (And.intro @sz42 (And.intro @ag42 @byt42))) (And.intro (And.intro @zro42 (And.intro @zeroRow42 @elt42)) (And.intro @kOf42 (And.intro @ptOf42_0 @sz44)))) (And.intro (And.intro (And.intro @ag44 (And.intro @byt44 @zro44)) (And.intro @zeroRow44 (And.intro @fld44_0 @ptOf44_0))) (And.intro (And.intro @fld44_1 (And.intro @ptOf44_1 @fld44_2)) (And.intro @ptOf44_2 (And.intro @fld44_3 @ptOf44_3)))))))) (And.intro (And.intro (And.intro (And.intro (And.intro (And.intro (And.intro @fld44_4 @ptOf44_4) (And.intro @places44 (And.intro @sz45 @ag45))) (And.intro (And.intro @byt45 (And.intro @zro45 @zeroRow45)) (And.intro @elt45 (And.intro @kOf45 @ptOf45_0)))) (And.intro (And.intro (And.intro @sz47 @ag47) (And.intro @byt47 (And.intro @zro47 @zeroRow47))) (And.intro (And.intro @fld47_0 (And.intro @ptOf47_0 @places47)) (And.intro @sz51 (And.intro @ag51 @byt51))))) (And.intro (And.intro (And.intro (And.intro @zro51 @zeroRow51) (And.intro @fld51_0 (And.intro @ptOf51_0 @fld51_1))) (And.intro (And.intro @ptOf51_1 (And.intro @fld51_2 @ptOf51_2)) (And.intro @fld51_3 (And.intro @ptOf51_3 @places51)))) (And.intro (And.intro (And.intro @aeq51 @sz52) (And.intro @ag52 (And.intro @byt52 @zro52))) (And.intro (And.intro @zeroRow52 (And.intro @elt52 @kOf52)) (And.intro @ptOf52_0 (And.intro @sz53 @ag53)))))) (And.intro (And.intro (And.intro (And.intro (And.intro @byt53 @zro53) (And.intro @zeroRow53 (And.intro @elt53 @kOf53))) (And.intro (And.intro @ptOf53_0 (And.intro @sz54 @ag54)) (And.intro @byt54 (And.intro @zro54 @zeroRow54)))) (And.intro (And.intro (And.intro @elt54 @kOf54) (And.intro @ptOf54_0 (And.intro @sz56 @ag56))) (And.intro (And.intro @byt56 (And.intro @zro56 @zeroRow56)) (And.intro @fld56_0 (And.intro @ptOf56_0 @fld56_1))))) (And.intro (And.intro (And.intro (And.intro @ptOf56_1 @fld56_2) (And.intro @ptOf56_2 (And.intro @fld56_3 @ptOf56_3))) (And.intro (And.intro @fld56_4 (And.intro @ptOf56_4 @fld56_5)) (And.intro @ptOf56_5 (And.intro @places56 @sz58)))) (And.intro (And.intro (And.intro @ag58 (And.intro @byt58 @zro58)) (And.intro @zeroRow58 (And.intro @elt58 @kOf58))) (And.intro (And.intro @ptOf58_0 (And.intro @sz59 @ag59)) (And.intro @byt59 (And.intro @zro59 @sz62))))))) (And.intro (And.intro (And.intro (And.intro (And.intro (And.intro @ag62 @byt62) (And.intro @zro62 (And.intro @zeroRow62 @sz63))) (And.intro (And.intro @ag63 (And.intro @byt63 @zro63)) (And.intro @zeroRow63 (And.intro @sz65 @ag65)))) (And.intro (And.intro (And.intro @byt65 @zro65) (And.intro @sz67 (And.intro @ag67 @byt67))) (And.intro (And.intro @zro67 (And.intro @zeroRow67 @sz70)) (And.intro @ag70 (And.intro @byt70 @zro70))))) (And.intro (And.intro (And.intro (And.intro @zeroRow70 @fld70_0) (And.intro @ptOf70_0 (And.intro @fld70_1 @ptOf70_1))) (And.intro (And.intro @fld70_2 (And.intro @ptOf70_2 @places70)) (And.intro @sz71 (And.intro @ag71 @byt71)))) (And.intro (And.intro (And.intro @zro71 (And.intro @zeroRow71 @sz72)) (And.intro @ag72 (And.intro @byt72 @zro72))) (And.intro (And.intro @zeroRow72 (And.intro @sz73 @ag73)) (And.intro @byt73 (And.intro @zro73 @sz76)))))) (And.intro (And.intro (And.intro (And.intro (And.intro @ag76 @byt76) (And.intro @zro76 (And.intro @zeroRow76 @fld76_0))) (And.intro (And.intro @ptOf76_0 (And.intro @fld76_1 @ptOf76_1)) (And.intro @fld76_2 (And.intro @ptOf76_2 @places76)))) (And.intro (And.intro (And.intro @sz78 @ag78) (And.intro @byt78 (And.intro @zro78 @zeroRow78))) (And.intro (And.intro @fld78_0 (And.intro @ptOf78_0 @fld78_1)) (And.intro @ptOf78_1 (And.intro @places78 @aeq78))))) (And.intro (And.intro (And.intro (And.intro @sz80 @ag80) (And.intro @byt80 (And.intro @zro80 @zeroRow80))) (And.intro (And.intro @fld80_0 (And.intro @ptOf80_0 @fld80_1)) (And.intro @ptOf80_1 (And.intro @fld80_2 @ptOf80_2)))) (And.intro (And.intro (And.intro @fld80_3 (And.intro @ptOf80_3 @fld80_4)) (And.intro @ptOf80_4 (And.intro @fld80_5 @ptOf80_5))) (And.intro (And.intro @fld80_6 (And.intro @ptOf80_6 @fld80_7)) (And.intro @ptOf80_7 (And.intro @places80 @sz81))))))))) (And.intro (And.intro (And.intro (And.intro (And.intro (And.intro (And.intro (And.intro @ag81 @byt81) (And.intro @zro81 (And.intro @zeroRow81 @elt81))) (And.intro (And.intro @kOf81 (And.intro @ptOf81_0 @sz83)) (And.intro @ag83 (And.intro @byt83 @zro83)))) (And.intro (And.intro (And.intro @zeroRow83 @fld83_0) (And.intro @ptOf83_0 (And.intro @fld83_1 @ptOf83_1))) (And.intro (And.intro @fld83_2 (And.intro @ptOf83_2 @fld83_3)) (And.intro @ptOf83_3 (And.intro @places83 @sz86))))) (And.intro (And.intro (And.intro (And.intro @ag86 @byt86) (And.intro @zro86 (And.intro @zeroRow86 @fld86_0))) (And.intro (And.intro @ptOf86_0 (And.intro @fld86_1 @ptOf86_1)) (And.intro @fld86_2 (And.intro @ptOf86_2 @places86)))) (And.intro (And.intro (And.intro @aeq86 @sz88) (And.intro @ag88 (And.intro @byt88 @zro88))) (And.intro (And.intro @zeroRow88 (And.intro @elt88 @kOf88)) (And.intro @ptOf88_0 (And.intro @sz89 @ag89)))))) (And.intro (And.intro (And.intro (And.intro (And.intro @byt89 @zro89) (And.intro @zeroRow89 (And.intro @sz94 @ag94))) (And.intro (And.intro @byt94 (And.intro @zro94 @zeroRow94)) (And.intro @sz95 (And.intro @ag95 @byt95)))) (And.intro (And.intro (And.intro @zro95 @zeroRow95) (And.intro @sz97 (And.intro @ag97 @byt97))) (And.intro (And.intro @zro97 (And.intro @sz103 @ag103)) (And.intro @byt103 (And.intro @zro103 @zeroRow103))))) (And.intro (And.intro (And.intro (And.intro @sz105 @ag105) (And.intro @byt105 (And.intro @zro105 @zeroRow105))) (And.intro (And.intro @sz107 (And.intro @ag107 @byt107)) (And.intro @zro107 (And.intro @zeroRow107 @fld107_0)))) (And.intro (And.intro (And.intro @ptOf107_0 (And.intro @fld107_1 @ptOf107_1)) (And.intro @places107 (And.intro @aeq107 @sz109))) (And.intro (And.intro @ag109 (And.intro @byt109 @zro109)) (And.intro @zeroRow109 (And.intro @fld109_0 @ptOf109_0))))))) (And.intro (And.intro (And.intro (And.intro (And.intro (And.intro @fld109_1 @ptOf109_1) (And.intro @fld109_2 (And.intro @ptOf109_2 @places109))) (And.intro (And.intro @aeq109 (And.intro @sz110 @ag110)) (And.intro @byt110 (And.intro @zro110 @zeroRow110)))) (And.intro (And.intro (And.intro @sz111 @ag111) (And.intro @byt111 (And.intro @zro111 @zeroRow111))) (And.intro (And.intro @sz113 (And.intro @ag113 @byt113)) (And.intro @zro113 (And.intro @zeroRow113 @sz114))))) (And.intro (And.intro (And.intro (And.intro @ag114 @byt114) (And.intro @zro114 (And.intro @zeroRow114 @sz121))) (And.intro (And.intro @ag121 (And.intro @byt121 @zro121)) (And.intro @zeroRow121 (And.intro @sz129 @ag129)))) (And.intro (And.intro (And.intro @byt129 (And.intro @zro129 @zeroRow129)) (And.intro @sz133 (And.intro @ag133 @byt133))) (And.intro (And.intro @zro133 (And.intro @sz137 @ag137)) (And.intro @byt137 (And.intro @zro137 @zeroRow137)))))) (And.intro (And.intro (And.intro (And.intro (And.intro @fld137_0 @ptOf137_0) (And.intro @fld137_1 (And.intro @ptOf137_1 @fld137_2))) (And.intro (And.intro @ptOf137_2 (And.intro @places137 @aeq137)) (And.intro @sz140 (And.intro @ag140 @byt140)))) (And.intro (And.intro (And.intro @zro140 @sz142) (And.intro @ag142 (And.intro @byt142 @zro142))) (And.intro (And.intro @zeroRow142 (And.intro @sz143 @ag143)) (And.intro @byt143 (And.intro @zro143 @zeroRow143))))) (And.intro (And.intro (And.intro (And.intro @sz146 @ag146) (And.intro @byt146 (And.intro @zro146 @zeroRow146))) (And.intro (And.intro @elt146 (And.intro @kOf146 @ptOf146_0)) (And.intro @sz149 (And.intro @ag149 @byt149)))) (And.intro (And.intro (And.intro @zro149 (And.intro @sz152 @ag152)) (And.intro @byt152 (And.intro @zro152 @zeroRow152))) (And.intro (And.intro @sz171 (And.intro @ag171 @byt171)) (And.intro @zro171 (And.intro @sz177 @ag177)))))))) (And.intro (And.intro (And.intro (And.intro (And.intro (And.intro (And.intro @byt177 @zro177) (And.intro @zeroRow177 (And.intro @sz181 @ag181))) (And.intro (And.intro @byt181 (And.intro @zro181 @zeroRow181)) (And.intro @sz189 (And.intro @ag189 @byt189)))) (And.intro (And.intro (And.intro @zro189 @zeroRow189) (And.intro @sz190 (And.intro @ag190 @byt190))) (And.intro (And.intro @zro190 (And.intro @zeroRow190 @sz194)) (And.intro @ag194 (And.intro @byt194 @zro194))))) (And.intro (And.intro (And.intro (And.intro @zeroRow194 @sz197) (And.intro @ag197 (And.intro @byt197 @zro197))) (And.intro (And.intro @sz200 (And.intro @ag200 @byt200)) (And.intro @zro200 (And.intro @zeroRow200 @sz207)))) (And.intro (And.intro (And.intro @ag207 @byt207) (And.intro @zro207 (And.intro @zeroRow207 @sz211))) (And.intro (And.intro @ag211 (And.intro @byt211 @zro211)) (And.intro @zeroRow211 (And.intro @sz213 @ag213)))))) (And.intro (And.intro (And.intro (And.intro (And.intro @byt213 @zro213) (And.intro @sz222 (And.intro @ag222 @byt222))) (And.intro (And.intro @sz224 (And.intro @ag224 @byt224)) (And.intro @zro224 (And.intro @zeroRow224 @fld224_0)))) (And.intro (And.intro (And.intro @ptOf224_0 @fld224_1) (And.intro @ptOf224_1 (And.intro @places224 @aeq224))) (And.intro (And.intro @sz225 (And.intro @ag225 @byt225)) (And.intro @zro225 (And.intro @zeroRow225 @sz226))))) (And.intro (And.intro (And.intro (And.intro @ag226 @byt226) (And.intro @zro226 (And.intro @zeroRow226 @sz228))) (And.intro (And.intro @ag228 (And.intro @byt228 @zro228)) (And.intro @zeroRow228 (And.intro @sz233 @ag233)))) (And.intro (And.intro (And.intro @byt233 (And.intro @zro233 @zeroRow233)) (And.intro @sz235 (And.intro @ag235 @byt235))) (And.intro (And.intro @zro235 (And.intro @zeroRow235 @fld235_0)) (And.intro @ptOf235_0 (And.intro @places235 @sz236))))))) (And.intro (And.intro (And.intro (And.intro (And.intro (And.intro @ag236 @byt236) (And.intro @zro236 (And.intro @zeroRow236 @sz237))) (And.intro (And.intro @ag237 (And.intro @byt237 @zro237)) (And.intro @eqg27 (And.intro @eqg32 @eqg51)))) (And.intro (And.intro (And.intro @eqg78 @eqg86) (And.intro @eqg107 (And.intro @eqg109 @eqg137))) (And.intro (And.intro @eqg224 (And.intro @mutOf52 @mutOf53)) (And.intro @mutOf54 (And.intro @mutOf81 @mutOf88))))) (And.intro (And.intro (And.intro (And.intro @mutOf146 @mutOf22) (And.intro @mutOf23 (And.intro @mutOf28 @mutOf29))) (And.intro (And.intro @mutOf30 (And.intro @mutOf41 @mutOf42)) (And.intro @mutOf45 (And.intro @mutOf58 @Tryz.underlying3)))) (And.intro (And.intro (And.intro @Tryz.underlying4 (And.intro @Tryz.underlying5 @Tryz.underlying9)) (And.intro @Tryz.underlying12 (And.intro @Tryz.underlying21 @Tryz.underlying22))) (And.intro (And.intro @Tryz.underlying23 (And.intro @Tryz.underlying25 @Tryz.underlying27)) (And.intro @Tryz.underlying28 (And.intro @Tryz.underlying29 @Tryz.underlying30)))))) (And.intro (And.intro (And.intro (And.intro (And.intro @Tryz.underlying32 @Tryz.underlying34) (And.intro @Tryz.underlying38 (And.intro @Tryz.underlying41 @Tryz.underlying42))) (And.intro (And.intro @Tryz.underlying44 (And.intro @Tryz.underlying45 @Tryz.underlying47)) (And.intro @Tryz.underlying51 (And.intro @Tryz.underlying52 @Tryz.underlying53)))) (And.intro (And.intro (And.intro @Tryz.underlying54 @Tryz.underlying56) (And.intro @Tryz.underlying58 (And.intro @Tryz.underlying67 @Tryz.underlying70))) (And.intro (And.intro @Tryz.underlying72 (And.intro @Tryz.underlying76 @Tryz.underlying78)) (And.intro @Tryz.underlying80 (And.intro @Tryz.underlying81 @Tryz.underlying83))))) (And.intro (And.intro (And.intro (And.intro @Tryz.underlying86 @Tryz.underlying88) (And.intro @Tryz.underlying107 (And.intro @Tryz.underlying109 @Tryz.underlying111))) (And.intro (And.intro @Tryz.underlying114 (And.intro @Tryz.underlying121 @Tryz.underlying129)) (And.intro @Tryz.underlying137 (And.intro @Tryz.underlying146 @Tryz.underlying194)))) (And.intro (And.intro (And.intro @Tryz.underlying207 (And.intro @Tryz.underlying211 @Tryz.underlying222)) (And.intro @Tryz.underlying224 (And.intro @Tryz.underlying225 @Tryz.underlying226))) (And.intro (And.intro @Tryz.underlying228 (And.intro @Tryz.underlying235 @Tryz.underlying236)) (And.intro @gl_1 (And.intro @gl_2 @gl_3))))))))))
end Go.Proofs.Pv
