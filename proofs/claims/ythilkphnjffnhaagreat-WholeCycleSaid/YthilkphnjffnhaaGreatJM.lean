/- The walks of integer.Gcd, integer.Mul and integer.Lcm at positive numbers. -/
import Derived.Test.YthilkphnjffnhaaGreatJK
import Derived.Test.YthilkphnjffnhaaGreatJD
namespace Go.Proofs.YthilkphnjffnhaaGreat
open Go.RowKit
set_option linter.unusedVariables false
set_option linter.unusedSimpArgs false
theorem size_any (a : Nat) (w : World) (h : a < 4611686018427387904) :
    Calls Tryz.prog 113 #[.int .i64 a] w fun e w' => e = .returned (.int .u64 a) ∧ w = w' := by
  have h0 : ¬ (a : Int) < 0 := by omega
  have h1 : IntKind.u64.wrap (a : Int) = a := IntWalk.u64_in _ (by omega)
  go_enter Tryz.func113, Tryz.ntmps113
  go_wp2
  go_ret
  exact ⟨rfl, rfl⟩

theorem signed_any (a : Nat) (w : World) (h : a < 4611686018427387904) :
    Calls Tryz.prog 114 #[.int .u64 a, .bool false] w fun e w' => e = .returned (.tuple #[.int .i64 a, .bool true]) ∧ w = w' := by
  have h0 : (a : Int) ≤ 9223372036854775807 := by omega
  have h1 : IntKind.i64.wrap (a : Int) = a := IntWalk.i64_in _ (by omega)
  go_enter Tryz.func114, Tryz.ntmps114
  go_wp2
  go_ret2
  exact ⟨rfl, rfl⟩

set_option maxHeartbeats 4000000 in
theorem gcd_any (a b : Nat) (w : World) (ha : a < 4611686018427387904) (hb : b < 4611686018427387904) :
    Calls Tryz.prog 99 #[.int .i64 a, .int .i64 b] w fun e w' => e = .returned (.int .i64 (Nat.gcd a b)) ∧ Below w.heap.size w w' := by
  have CA := Lib.hid (fun w => size_any a w ha)
  have CB := Lib.hid (fun w => size_any b w hb)
  generalize hG : Nat.gcd a b = G
  have HG := Lib.hid hG
  clear hG
  go_enter Tryz.func99, Tryz.ntmps99
  go_wp2_with fail
  refine (CA.out _).mono ?_
  rintro e w1 ⟨rfl, rfl⟩
  go_wp2_with fail
  refine (CB.out _).mono ?_
  rintro e w1 ⟨rfl, rfl⟩
  go_wp2_with fail
  go_loopg [5, 6] b (fun gg v5 v6 wr => ∃ x y : Nat, y ≤ gg ∧ v5 = .int .u64 x ∧ v6 = .int .u64 y ∧ x < 4611686018427387904 ∧ y < 4611686018427387904 ∧ Hid (Nat.gcd x y = G) ∧ Hid (Below w.heap.size w wr))
  case atStart => exact ⟨a, b, by omega, rfl, rfl, ha, hb, HG.out, Below.refl _ _⟩
  case round =>
    obtain ⟨x, y, hy, rfl, rfl, hx1, hy1, HGC, HBu⟩ := hrel
    have HY := Lib.hid hy
    clear hy
    have hbs := HBu.out.size
    by_cases hz : y = 0
    · subst hz
      have HE := Lib.hid (show x = G by have := HGC.out; rwa [Nat.gcd_zero_right] at this)
      have CS := Lib.hid (fun w => signed_any x w hx1)
      have q0 : (((0 : Nat) : Int) != 0) = false := rfl
      go_wp2_with fail
      refine (CS.out _).mono ?_
      rintro e w1 ⟨rfl, rfl⟩
      go_wp2
      go_ret
      exact ⟨by rw [← HE.out]; rfl, HBu.out⟩
    · have q0 : ((y : Int) != 0) = true := by simp; omega
      have q1 : (x : Int).tmod y = ((x % y : Nat) : Int) := (Int.ofNat_tmod x y).symm
      have q2 : (y : Int) ≠ 0 := by omega
      have HGC2 := Lib.hid (show Nat.gcd y (x % y) = G by rw [← HGC.out, Nat.gcd_comm x y, Nat.gcd_rec y x, Nat.gcd_comm])
      have hlt : x % y < y := Nat.mod_lt _ (by omega)
      have HLT := Lib.hid hlt
      generalize x % y = z at *
      have q3 : IntKind.u64.wrap (z : Int) = z := IntWalk.u64_in _ (by have := HLT.out; omega)
      clear hlt
      go_wp2_with refine wp_region_calm (by kernel_rfl) (by kernel_rfl) ?_
      repeat (go_big_quiet_step (fail))
      refine wpQuiet_nil ?_
      rintro _ ⟨xx, rfl⟩
      go_wp2
      go_roundg z
      case measure => have := HY.out; have := HLT.out; omega
      case rel => exact ⟨y, z, by omega, rfl, rfl, hy1, by have := HLT.out; omega, HGC2.out, HBu.out.ext HBu.out.size xx⟩
end Go.Proofs.YthilkphnjffnhaaGreat
/- The walks of integer.Mul and integer.Lcm at positive numbers. -/
namespace Go.Proofs.YthilkphnjffnhaaGreat
open Go.RowKit
set_option linter.unusedVariables false
set_option linter.unusedSimpArgs false
set_option maxHeartbeats 4000000 in
theorem mul_any (a b : Nat) (w : World) (ha : a < 4611686018427387904) (hb : b < 4611686018427387904) (hab : a * b < 4611686018427387904) :
    Calls Tryz.prog 112 #[.int .i64 a, .int .i64 b] w fun e w' => e = .returned (.tuple #[.int .i64 ((a * b : Nat) : Int), .int .i64 0]) ∧ w = w' := by
  have CA := Lib.hid (fun w => size_any a w ha)
  have CB := Lib.hid (fun w => size_any b w hb)
  have CM := Lib.hid (fun w => Tryz.bits_Mul64 a b (by omega) (by omega) w)
  have CS := Lib.hid (fun w => signed_any (a * b) w hab)
  rw [Nat.div_eq_of_lt (by omega), Nat.mod_eq_of_lt (by omega)] at CM
  generalize a * b = m at *
  have h0 : ¬ (a : Int) < 0 := by omega
  have h1 : ¬ (b : Int) < 0 := by omega
  go_enter Tryz.func112, Tryz.ntmps112
  go_wp2_with fail
  refine (CA.out _).mono ?_
  rintro e w1 ⟨rfl, rfl⟩
  go_wp2_with fail
  refine (CB.out _).mono ?_
  rintro e w1 ⟨rfl, rfl⟩
  go_wp2_with fail
  refine (CM.out _).mono ?_
  rintro e w1 ⟨rfl, rfl⟩
  go_wp2_with fail
  refine (CS.out _).mono ?_
  rintro e w1 ⟨rfl, rfl⟩
  go_wp2
  go_ret2
  exact ⟨rfl, rfl⟩

set_option maxHeartbeats 4000000 in
theorem lcm_any (a b : Nat) (w : World) (ha : a < 4611686018427387904) (hb : b < 4611686018427387904) (ha1 : 1 ≤ a) (hb1 : 1 ≤ b) (hab : a * b < 4611686018427387904) :
    Calls Tryz.prog 98 #[.int .i64 a, .int .i64 b] w fun e w' => e = .returned (.tuple #[.int .i64 ((a * (b / Nat.gcd a b) : Nat) : Int), .int .i64 0]) ∧ Below w.heap.size w w' := by
  have hle : a * (b / Nat.gcd a b) ≤ a * b := Nat.mul_le_mul_left a (Nat.div_le_self _ _)
  have hle2 : b / Nat.gcd a b ≤ b := Nat.div_le_self _ _
  have hg : 0 < Nat.gcd a b := Nat.gcd_pos_of_pos_left b ha1
  have CG := Lib.hid (fun w => gcd_any a b w ha hb)
  have CM := Lib.hid (fun w => mul_any a (b / Nat.gcd a b) w ha (by omega) (by omega))
  have q1 : (b : Int).tdiv ((Nat.gcd a b : Nat) : Int) = ((b / Nat.gcd a b : Nat) : Int) := (Int.ofNat_tdiv b _).symm
  have q2 : ((Nat.gcd a b : Nat) : Int) ≠ 0 := by omega
  have h0 : ¬ (a : Int) < 1 := by omega
  have h1 : ¬ (b : Int) < 1 := by omega
  generalize b / Nat.gcd a b = q at *
  generalize Nat.gcd a b = g at *
  have q3 : IntKind.i64.wrap (q : Int) = q := IntWalk.i64_in _ (by omega)
  go_enter Tryz.func98, Tryz.ntmps98
  go_wp2_with fail
  refine (CG.out _).mono ?_
  rintro e w1 ⟨rfl, hb1⟩; obtain ⟨x, rfl⟩ := hb1.toExt; clear hb1
  go_wp2_with fail
  refine (CM.out _).mono ?_
  rintro e w1 ⟨rfl, rfl⟩
  go_wp2
  go_ret2
  exact ⟨rfl, (by repeat (first | (with_reducible exact Below.refl _ _) | (with_reducible assumption) | (with_reducible refine RowKit.Below.ext ?_ ?_ _) | (with_reducible refine Below.alloc ?_ ?_ _) | (with_reducible refine Below.drew ?_) | (with_reducible refine RowKit.Below.drawnN ?_ _) | (with_reducible refine Below.setCell ?_ ?_ _) | (exact (by first | (simp; done) | (simp; omega) | omega))))⟩
end Go.Proofs.YthilkphnjffnhaaGreat
