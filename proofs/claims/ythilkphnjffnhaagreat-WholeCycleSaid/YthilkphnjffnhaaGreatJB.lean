/- The walks of the packages integer, civil and week. -/
import Derived.Test.YthilkphnjffnhaaGreatJA
namespace Go.Proofs.YthilkphnjffnhaaGreat
open Go.RowKit
set_option linter.unusedVariables false
set_option linter.unusedSimpArgs false

theorem tdiv_w (a b : Int) (hb : 2 ≤ b) (h1 : -9223372036854775808 < a) (h2 : a < 9223372036854775808) : -4611686018427387904 ≤ a.tdiv b ∧ a.tdiv b ≤ 4611686018427387904 := by
  have e := Int.mul_tdiv_add_tmod a b
  have : (a.tdiv b).natAbs ≤ a.natAbs / b.natAbs := by rw [Int.natAbs_tdiv]; exact Nat.le_refl _
  have h3 : a.natAbs / b.natAbs ≤ a.natAbs / 2 := Nat.div_le_div_left (by omega) (by omega)
  omega

theorem wrap64_id (n : Int) (h1 : -9223372036854775808 ≤ n) (h2 : n < 9223372036854775808) : wrap64 n = n := by unfold wrap64; omega

theorem tmod_facts (a b : Int) (hb : 1 ≤ b) :
    (a.tmod b = 0 → a.tdiv b = a / b ∧ a % b = 0) ∧ (a.tmod b ≠ 0 → 0 ≤ a → 0 < a.tmod b ∧ a.tdiv b = a / b ∧ a.tmod b = a % b) ∧ (a.tmod b ≠ 0 → a < 0 → a.tmod b < 0 ∧ a.tdiv b - 1 = a / b ∧ a.tmod b + b = a % b) := by
  refine ⟨fun h => ?_, fun h h0 => ?_, fun h h0 => ?_⟩
  · have hd : b ∣ a := Int.dvd_of_tmod_eq_zero h
    exact ⟨Int.tdiv_eq_ediv_of_dvd hd, Int.emod_eq_zero_of_dvd hd⟩
  · have e1 := Int.tdiv_eq_ediv_of_nonneg (a := a) (b := b) h0
    have e2 := Int.tmod_eq_emod_of_nonneg (a := a) (b := b) h0
    have := Int.emod_nonneg a (b := b) (by omega)
    omega
  · have e1 := Int.mul_tdiv_add_tmod a b
    have e2 := Int.mul_ediv_add_emod a b
    have p1 := Int.emod_nonneg a (b := b) (by omega)
    have p2 := Int.emod_lt_of_pos a (b := b) (by omega)
    have n1 : -b < a.tmod b := by
      have : (a.tmod b).natAbs < b.natAbs := by
        rw [Int.natAbs_tmod]; exact Nat.mod_lt _ (by omega)
      omega
    have n2 : a.tmod b ≤ 0 := by
      have := Int.tmod_nonneg (a := -a) b (by omega)
      rw [Int.neg_tmod] at this; omega
    have hlt : a.tmod b < 0 := by omega
    have key : a.tdiv b - 1 = a / b := by
      have h3 : b * (a.tdiv b - 1 - a / b) = a % b - (a.tmod b + b) := by
        rw [Int.mul_sub, Int.mul_sub]; omega
      have h4 : -b < b * (a.tdiv b - 1 - a / b) ∧ b * (a.tdiv b - 1 - a / b) < b := by omega
      obtain ⟨k, hk0⟩ : ∃ k, k = a.tdiv b - 1 - a / b := ⟨_, rfl⟩
      rw [← hk0] at h3 h4
      have : k = 0 := by
        rcases Int.lt_trichotomy k 0 with hk | hk | hk
        · have := Int.mul_le_mul_of_nonneg_left (show k ≤ -1 by omega) (show 0 ≤ b by omega); omega
        · exact hk
        · have := Int.mul_le_mul_of_nonneg_left (show 1 ≤ k by omega) (show 0 ≤ b by omega); omega
      omega
    refine ⟨hlt, key, ?_⟩
    rw [← key] at e2
    rw [Int.mul_sub] at e2
    omega

set_option maxHeartbeats 1000000 in
theorem div_any (a b : Int) (w : World) (hb : 2 ≤ b) (hb2 : b ≤ 1000000000000) (h1 : -4611686018427387904 < a) (h2 : a < 4611686018427387904) :
    Calls Tryz.prog 35 #[.int .i64 a, .int .i64 b] w fun e w' => e = .returned (.tuple #[.int .i64 (a / b), .int .i64 (a % b), .int .i64 0]) ∧ ∃ n, w' = w.drewN n := by
  have ht := tdiv_w a b hb (by omega) (by omega)
  obtain ⟨f1, f2, f3⟩ := tmod_facts a b (by omega)
  have hq : wrap64 (a.tdiv b) = a.tdiv b := wrap64_id _ (by omega) (by omega)
  have c1 : (b == 0) = false := beq_eq_false_iff_ne.mpr (by omega)
  have c2 : (a == -9223372036854775808) = false := beq_eq_false_iff_ne.mpr (by omega)
  have c3 : decide (b < 0) = false := by simp; omega
  by_cases hr : a.tmod b = 0
  · obtain ⟨g1, g2⟩ := f1 hr
    have c4 : (a.tmod b != 0) = false := by simp [hr]
    have R : Ending.returned (.tuple #[.int .i64 (a.tdiv b), .int .i64 (a.tmod b), .int .i64 0]) = .returned (.tuple #[.int .i64 (a / b), .int .i64 (a % b), .int .i64 0]) := by rw [g1, g2, hr]
    have HR := Lib.hid R
    clear R f1 f2 f3 g1 g2 hr
    go_enter Tryz.func35, Tryz.ntmps35
    go_wp2
    go_quiet (fail)
    go_wp2
    go_ret3
    exact ⟨HR.out, _, rfl⟩
  · have c4 : (a.tmod b != 0) = true := by simp [hr]
    rcases Int.lt_or_le a 0 with h0 | h0
    · obtain ⟨g0, g1, g2⟩ := f3 hr h0
      have c5 : decide (a.tmod b < 0) = true := by simp [g0]
      have q1 : wrap64 (a.tdiv b - 1) = a.tdiv b - 1 := wrap64_id _ (by omega) (by omega)
      have hbd : -1000000000000 ≤ a.tmod b + b ∧ a.tmod b + b ≤ 1000000000000 := by
        have := Int.emod_nonneg a (b := b) (by omega)
        have := Int.emod_lt_of_pos a (b := b) (by omega)
        omega
      have q2 : wrap64 (a.tmod b + b) = a.tmod b + b := wrap64_id _ (by omega) (by omega)
      have R : Ending.returned (.tuple #[.int .i64 (a.tdiv b - 1), .int .i64 (a.tmod b + b), .int .i64 0]) = .returned (.tuple #[.int .i64 (a / b), .int .i64 (a % b), .int .i64 0]) := by rw [g1, g2]
      have HR := Lib.hid R
      clear R f1 f2 f3 g0 g1 g2 hr h0
      go_enter Tryz.func35, Tryz.ntmps35
      go_wp2
      go_quiet (fail)
      go_wp2
      go_ret3
      exact ⟨HR.out, _, rfl⟩
    · obtain ⟨g0, g1, g2⟩ := f2 hr h0
      have c5 : decide (a.tmod b < 0) = false := by simp; omega
      have R : Ending.returned (.tuple #[.int .i64 (a.tdiv b), .int .i64 (a.tmod b), .int .i64 0]) = .returned (.tuple #[.int .i64 (a / b), .int .i64 (a % b), .int .i64 0]) := by rw [g1, g2]
      have HR := Lib.hid R
      clear R f1 f2 f3 g0 g1 g2 hr h0
      go_enter Tryz.func35, Tryz.ntmps35
      go_wp2
      go_quiet (fail)
      go_wp2
      go_ret3
      exact ⟨HR.out, _, rfl⟩
end Go.Proofs.YthilkphnjffnhaaGreat
/- The walks of the package civil. -/
namespace Go.Proofs.YthilkphnjffnhaaGreat
open Go.RowKit
set_option linter.unusedVariables false
set_option linter.unusedSimpArgs false

theorem floor_any (a b : Int) (w : World) (hb : 2 ≤ b) (hb2 : b ≤ 1000000000000) (h1 : -4611686018427387904 < a) (h2 : a < 4611686018427387904) :
    Calls Tryz.prog 12 #[.int .i64 a, .int .i64 b] w fun e w' => e = .returned (.int .i64 (a / b)) ∧ ∃ n, w' = w.drewN n := by
  go_enter Tryz.func12, Tryz.ntmps12
  go_wp2_with fail
  refine (div_any a b _ hb hb2 h1 h2).mono ?_
  rintro e w' ⟨rfl, n, rfl⟩
  go_wp2
  go_ret
  exact ⟨rfl, _, rfl⟩
theorem mod_any (a b : Int) (w : World) (hb : 2 ≤ b) (hb2 : b ≤ 1000000000000) (h1 : -4611686018427387904 < a) (h2 : a < 4611686018427387904) :
    Calls Tryz.prog 30 #[.int .i64 a, .int .i64 b] w fun e w' => e = .returned (.int .i64 (a % b)) ∧ ∃ n, w' = w.drewN n := by
  go_enter Tryz.func30, Tryz.ntmps30
  go_wp2_with fail
  refine (div_any a b _ hb hb2 h1 h2).mono ?_
  rintro e w' ⟨rfl, n, rfl⟩
  go_wp2
  go_ret
  exact ⟨rfl, _, rfl⟩

theorem inside_yes (d : Int) (w : World) (h1 : -719162 ≤ d) (h2 : d < 2932897) :
    Calls Tryz.prog 40 #[.int .i64 d] w fun e w' => e = .returned (.bool true) ∧ w = w' := by
  go_enter Tryz.func40, Tryz.ntmps40
  go_wp2
  go_ret
  exact ⟨rfl, rfl⟩
theorem year_yes (d : Int) (w : World) (h1 : 1 ≤ d) (h2 : d ≤ 9999) :
    Calls Tryz.prog 48 #[.int .i64 d] w fun e w' => e = .returned (.bool true) ∧ w = w' := by
  go_enter Tryz.func48, Tryz.ntmps48
  go_wp2
  go_ret
  exact ⟨rfl, rfl⟩

theorem count_any (y m d : Int) (w : World) (h1 : 1 ≤ y) (h2 : y ≤ 10000) (h3 : 1 ≤ m) (h4 : m ≤ 12) (h5 : 1 ≤ d) (h6 : d ≤ 31) :
    Calls Tryz.prog 41 #[.int .i64 y, .int .i64 m, .int .i64 d] w fun e w' => e = .returned (.int .i64 (cnt y m d)) ∧ w = w' := by
  by_cases hm : m ≤ 2
  · have R : cnt y m d = cnt0 (y - 1) (m + 12) d := by unfold cnt; rw [if_pos hm]
    have HR := Lib.hid R
    clear R
    go_enter Tryz.func41, Tryz.ntmps41
    go_wp2
    go_ret
    exact ⟨ret_int (by rw [HR.out]; unfold cnt0; omega), rfl⟩
  · have R : cnt y m d = cnt0 y m d := by unfold cnt; rw [if_neg hm]
    have HR := Lib.hid R
    clear R
    go_enter Tryz.func41, Tryz.ntmps41
    go_wp2
    go_ret
    exact ⟨ret_int (by rw [HR.out]; unfold cnt0; omega), rfl⟩

theorem leap_any (y : Int) (w : World) (h1 : 1 ≤ y) (h2 : y ≤ 9999) :
    Calls Tryz.prog 70 #[.int .i64 y] w fun e w' => e = .returned (.bool (lpB y)) ∧ w = w' := by
  have h3 := lp_iff y
  have key : lpB y = (decide (y % 4 = 0) && (!decide (y % 100 = 0) || decide (y % 400 = 0))) := rfl
  by_cases a : y % 4 = 0 <;> by_cases b : y % 100 = 0 <;> by_cases c : y % 400 = 0
  all_goals
    simp only [a, b, c, decide_true, decide_false, Bool.not_true, Bool.not_false, Bool.and_true, Bool.true_and, Bool.or_true, Bool.or_false, Bool.false_and] at key
    rw [key]
    clear key h3
    first | have a1 : (y % 4 == 0) = true := beq_iff_eq.2 a | have a1 : (y % 4 == 0) = false := beq_eq_false_iff_ne.2 a
    first | have b1 : (y % 100 != 0) = false := by simp [b] | have b1 : (y % 100 != 0) = true := by simp [b]
    first | have c1 : (y % 400 == 0) = true := beq_iff_eq.2 c | have c1 : (y % 400 == 0) = false := beq_eq_false_iff_ne.2 c
    clear a b c
    go_enter Tryz.func70, Tryz.ntmps70
    go_wp2_with fail
    refine (year_yes y _ h1 h2).mono ?_
    rintro e w' ⟨rfl, rfl⟩
    go_wp2
    go_ret
    exact ⟨rfl, rfl⟩

theorem idx0 (w : World) : (Instr.index 101 (.agg #[.int .i64 31, .int .i64 28, .int .i64 31, .int .i64 30, .int .i64 31, .int .i64 30, .int .i64 31, .int .i64 31, .int .i64 30, .int .i64 31, .int .i64 30, .int .i64 31]) (.int .i64 0)).run Tryz.prog w = .ok (.int .i64 31) w := by kernel_rfl
theorem idx1 (w : World) : (Instr.index 101 (.agg #[.int .i64 31, .int .i64 28, .int .i64 31, .int .i64 30, .int .i64 31, .int .i64 30, .int .i64 31, .int .i64 31, .int .i64 30, .int .i64 31, .int .i64 30, .int .i64 31]) (.int .i64 1)).run Tryz.prog w = .ok (.int .i64 28) w := by kernel_rfl
theorem idx2 (w : World) : (Instr.index 101 (.agg #[.int .i64 31, .int .i64 28, .int .i64 31, .int .i64 30, .int .i64 31, .int .i64 30, .int .i64 31, .int .i64 31, .int .i64 30, .int .i64 31, .int .i64 30, .int .i64 31]) (.int .i64 2)).run Tryz.prog w = .ok (.int .i64 31) w := by kernel_rfl
theorem idx3 (w : World) : (Instr.index 101 (.agg #[.int .i64 31, .int .i64 28, .int .i64 31, .int .i64 30, .int .i64 31, .int .i64 30, .int .i64 31, .int .i64 31, .int .i64 30, .int .i64 31, .int .i64 30, .int .i64 31]) (.int .i64 3)).run Tryz.prog w = .ok (.int .i64 30) w := by kernel_rfl
theorem idx4 (w : World) : (Instr.index 101 (.agg #[.int .i64 31, .int .i64 28, .int .i64 31, .int .i64 30, .int .i64 31, .int .i64 30, .int .i64 31, .int .i64 31, .int .i64 30, .int .i64 31, .int .i64 30, .int .i64 31]) (.int .i64 4)).run Tryz.prog w = .ok (.int .i64 31) w := by kernel_rfl
theorem idx5 (w : World) : (Instr.index 101 (.agg #[.int .i64 31, .int .i64 28, .int .i64 31, .int .i64 30, .int .i64 31, .int .i64 30, .int .i64 31, .int .i64 31, .int .i64 30, .int .i64 31, .int .i64 30, .int .i64 31]) (.int .i64 5)).run Tryz.prog w = .ok (.int .i64 30) w := by kernel_rfl
theorem idx6 (w : World) : (Instr.index 101 (.agg #[.int .i64 31, .int .i64 28, .int .i64 31, .int .i64 30, .int .i64 31, .int .i64 30, .int .i64 31, .int .i64 31, .int .i64 30, .int .i64 31, .int .i64 30, .int .i64 31]) (.int .i64 6)).run Tryz.prog w = .ok (.int .i64 31) w := by kernel_rfl
theorem idx7 (w : World) : (Instr.index 101 (.agg #[.int .i64 31, .int .i64 28, .int .i64 31, .int .i64 30, .int .i64 31, .int .i64 30, .int .i64 31, .int .i64 31, .int .i64 30, .int .i64 31, .int .i64 30, .int .i64 31]) (.int .i64 7)).run Tryz.prog w = .ok (.int .i64 31) w := by kernel_rfl
theorem idx8 (w : World) : (Instr.index 101 (.agg #[.int .i64 31, .int .i64 28, .int .i64 31, .int .i64 30, .int .i64 31, .int .i64 30, .int .i64 31, .int .i64 31, .int .i64 30, .int .i64 31, .int .i64 30, .int .i64 31]) (.int .i64 8)).run Tryz.prog w = .ok (.int .i64 30) w := by kernel_rfl
theorem idx9 (w : World) : (Instr.index 101 (.agg #[.int .i64 31, .int .i64 28, .int .i64 31, .int .i64 30, .int .i64 31, .int .i64 30, .int .i64 31, .int .i64 31, .int .i64 30, .int .i64 31, .int .i64 30, .int .i64 31]) (.int .i64 9)).run Tryz.prog w = .ok (.int .i64 31) w := by kernel_rfl
theorem idx10 (w : World) : (Instr.index 101 (.agg #[.int .i64 31, .int .i64 28, .int .i64 31, .int .i64 30, .int .i64 31, .int .i64 30, .int .i64 31, .int .i64 31, .int .i64 30, .int .i64 31, .int .i64 30, .int .i64 31]) (.int .i64 10)).run Tryz.prog w = .ok (.int .i64 30) w := by kernel_rfl
theorem idx11 (w : World) : (Instr.index 101 (.agg #[.int .i64 31, .int .i64 28, .int .i64 31, .int .i64 30, .int .i64 31, .int .i64 30, .int .i64 31, .int .i64 31, .int .i64 30, .int .i64 31, .int .i64 30, .int .i64 31]) (.int .i64 11)).run Tryz.prog w = .ok (.int .i64 31) w := by kernel_rfl
set_option maxRecDepth 100000 in
set_option maxHeartbeats 1000000 in
theorem length_any (y m : Int) (w : World) (h1 : 1 ≤ y) (h2 : y ≤ 9999) (h3 : 1 ≤ m) (h4 : m ≤ 12) :
    Calls Tryz.prog 49 #[.int .i64 y, .int .i64 m] w fun e w' => e = .returned (.int .i64 (mlen y m)) ∧ w = w' := by
  by_cases hm : m = 2
  · subst hm
    cases hl : lpB y with
    | true =>
      have R : mlen y 2 = 29 := by simp [mlen, hl]
      rw [R]
      have HL := Lib.hid hl
      clear R hl
      go_enter Tryz.func49, Tryz.ntmps49
      go_wp2_with fail
      refine (year_yes y _ h1 h2).mono ?_
      rintro e w' ⟨rfl, rfl⟩
      go_wp2_with fail
      refine (leap_any y _ h1 h2).mono ?_
      rintro e w' ⟨rfl, rfl⟩
      rw [HL.out]
      go_wp2
      go_ret
      exact ⟨rfl, rfl⟩
    | false =>
      have i1 := idx1
      have R : mlen y 2 = 28 := by simp [mlen, hl, tab]
      rw [R]
      have HL := Lib.hid hl
      clear R hl
      go_enter Tryz.func49, Tryz.ntmps49
      go_wp2_with fail
      refine (year_yes y _ h1 h2).mono ?_
      rintro e w' ⟨rfl, rfl⟩
      go_wp2_with fail
      refine (leap_any y _ h1 h2).mono ?_
      rintro e w' ⟨rfl, rfl⟩
      rw [HL.out]
      go_wp2
      go_ret
      exact ⟨rfl, rfl⟩
  · have hm' : m = 1 ∨ m = 3 ∨ m = 4 ∨ m = 5 ∨ m = 6 ∨ m = 7 ∨ m = 8 ∨ m = 9 ∨ m = 10 ∨ m = 11 ∨ m = 12 := by omega
    have R : mlen y m = tab m := by simp [mlen, hm]
    rw [R]
    clear R hm
    rcases hm' with rfl | rfl | rfl | rfl | rfl | rfl | rfl | rfl | rfl | rfl | rfl
    all_goals
      simp only [tab]
      have i0 := idx0; have i2 := idx2; have i3 := idx3; have i4 := idx4; have i5 := idx5; have i6 := idx6; have i7 := idx7; have i8 := idx8; have i9 := idx9; have i10 := idx10; have i11 := idx11
      go_enter Tryz.func49, Tryz.ntmps49
      go_wp2_with fail
      refine (year_yes y _ h1 h2).mono ?_
      rintro e w' ⟨rfl, rfl⟩
      go_wp2
      go_ret
      exact ⟨rfl, rfl⟩

end Go.Proofs.YthilkphnjffnhaaGreat
/- The walks of the package civil, the second part. -/
namespace Go.Proofs.YthilkphnjffnhaaGreat
open Go.RowKit
set_option linter.unusedVariables false
set_option linter.unusedSimpArgs false

theorem cvalid_yes (y m d : Int) (w : World) (h1 : 1 ≤ y) (h2 : y ≤ 9999) (h3 : 1 ≤ m) (h4 : m ≤ 12) (h5 : 1 ≤ d) (h6 : d ≤ mlen y m) :
    Calls Tryz.prog 42 #[.agg #[.int .i64 y, .int .i64 m, .int .i64 d]] w fun e w' => e = .returned (.bool true) ∧ Below w.heap.size w w' := by
  have hd : decide (1 ≤ d) = true := by simp [h5]
  have he : decide (d ≤ mlen y m) = true := by simp [h6]
  go_enter Tryz.func42, Tryz.ntmps42
  go_wp2_with fail
  refine wp_region_calm (by kernel_rfl) (by kernel_rfl) ?_
  repeat (go_big_quiet_step ((go_at_call 49; exact Calls.calm_of_same ((length_any y m _ h1 h2 h3 h4).mono fun _ _ h => h))))
  refine wpQuiet_nil ?_
  rintro _ ⟨x, rfl⟩
  go_wp2
  go_ret
  exact ⟨by simp [h5, h6], ((Below.refl _ _).alloc (Nat.le_refl _) _).ext (by simp) _⟩


set_option maxHeartbeats 1000000 in
theorem date_any (day : Int) (w : World) (h1 : -719162 ≤ day) (h2 : day < 2932897) :
    Calls Tryz.prog 17 #[.int .i64 day] w fun e w' => e = .returned (.tuple #[.agg #[.int .i64 (yr day), .int .i64 (mo day), .int .i64 (dm day)], .int .i64 0]) ∧ Below w.heap.size w w' := by
  have g0 : 1 ≤ (day + 719162) / 366 + 1 ∧ (day + 719162) / 366 + 1 ≤ 9999 ∧ ny ((day + 719162) / 366 + 1) ≤ day := by unfold ny; omega
  go_enter Tryz.func17, Tryz.ntmps17
  go_wp2_with fail
  refine (inside_yes day _ h1 h2).mono ?_
  rintro e w' ⟨rfl, rfl⟩
  go_wp2_with fail
  go_loop [4] (fun t => ∃ y : Int, 1 ≤ y ∧ y ≤ 9999 ∧ ny y ≤ day ∧ t = .int .i64 y) (fun t => (9999 - intOf t).toNat)
  case atStart => exact ⟨_, by omega, by omega, g0.2.2, rfl⟩
  case round =>
    clear g0
    obtain ⟨y, hy1, hy2, hy3, rfl⟩ := hrel
    have hj := cnt_jan (y + 1)
    by_cases hc : y < 9999 ∧ ny (y + 1) ≤ day
    · obtain ⟨hlt, hd⟩ := hc
      have HJ := Lib.hid hj
      clear hj
      go_wp2_with fail
      refine (count_any (y + 1) 1 1 _ (by omega) (by omega) (by omega) (by omega) (by omega) (by omega)).mono ?_
      rintro e w' ⟨rfl, rfl⟩
      rw [HJ.out]
      go_wp2
      go_round
      case rel => exact ⟨y + 1, by omega, by omega, hd, rfl⟩
      case measure => simp [intOf]; omega
    · have hz : day < ny (y + 1) := by
        by_cases e : y = 9999
        · subst e; have := ny_10000; simp only [Int.reduceAdd]; omega
        · omega
      have HJ := Lib.hid hj
      clear hc hj
      have key : ∀ m : Int, 1 ≤ m → m ≤ 12 → cnt y m 1 ≤ day → (m < 12 → day < cnt y (m + 1) 1) → yr day = y ∧ mo day = m ∧ dm day = day - cnt y m 1 + 1 := by
        intro m a b c d
        refine ymd_eq ⟨hy1, hy2, a, b, by omega, ?_, by omega⟩
        by_cases e : m = 12
        · subst e; have := cnt_dec y; have := mlen_12 y; omega
        · have := cnt_next y m a (by omega); have := d (by omega); omega
      have hstart : cnt y 1 1 ≤ day := by rw [cnt_jan]; exact hy3
      have HK := Lib.hid key
      have HS := Lib.hid hstart
      clear key hstart
      by_cases hlt : y < 9999
      · go_wp2_with fail
        refine (count_any (y + 1) 1 1 _ (by omega) (by omega) (by omega) (by omega) (by omega) (by omega)).mono ?_
        rintro e w' ⟨rfl, rfl⟩
        rw [HJ.out]
        go_wp2_with fail
        go_loop [5] (fun t => ∃ m : Int, 1 ≤ m ∧ m ≤ 12 ∧ cnt y m 1 ≤ day ∧ t = .int .i64 m) (fun t => (12 - intOf t).toNat)
        case atStart => exact ⟨1, by omega, by omega, HS.out, rfl⟩
        case round =>
          obtain ⟨m, hm1, hm2, hm3, rfl⟩ := hrel
          by_cases hc : m < 12 ∧ cnt y (m + 1) 1 ≤ day
          · obtain ⟨hlt, hd⟩ := hc
            go_wp2_with fail
            refine (count_any y (m + 1) 1 _ (by omega) (by omega) (by omega) (by omega) (by omega) (by omega)).mono ?_
            rintro e w' ⟨rfl, rfl⟩
            go_wp2
            go_round
            case rel => exact ⟨m + 1, by omega, by omega, hd, rfl⟩
            case measure => simp [intOf]; omega
          · have hn : m < 12 → day < cnt y (m + 1) 1 := by omega
            have HE := Lib.hid (HK.out m hm1 hm2 hm3 hn)
            have hbd : day - cnt y m 1 < 31 := by
              by_cases e : m = 12
              · subst e; have := cnt_dec y; omega
              · have := cnt_next y m hm1 (by omega); have := mlen_bd y m; have := hn (by omega); omega
            clear hc
            by_cases hlt : m < 12
            · have hn2 := hn hlt
              clear hn
              go_wp2_with fail
              refine (count_any y (m + 1) 1 _ (by omega) (by omega) (by omega) (by omega) (by omega) (by omega)).mono ?_
              rintro e w' ⟨rfl, rfl⟩
              go_wp2_with fail
              refine (count_any y m 1 _ (by omega) (by omega) (by omega) (by omega) (by omega) (by omega)).mono ?_
              rintro e w' ⟨rfl, rfl⟩
              go_wp2
              refine bodyPost_ret (v := .tuple #[.agg #[.int .i64 y, .int .i64 m, .int .i64 (day - cnt y m 1 + 1)], .int .i64 0]) (by simp [results, Tryz.results17, go_sem]) rfl ⟨?_, ?_⟩
              · obtain ⟨e1, e2, e3⟩ := HE.out
                rw [e1, e2, e3]
              · exact (Below.refl _ _).alloc (Nat.le_refl _) _
            · clear hn
              go_wp2_with fail
              refine (count_any y m 1 _ (by omega) (by omega) (by omega) (by omega) (by omega) (by omega)).mono ?_
              rintro e w' ⟨rfl, rfl⟩
              go_wp2
              refine bodyPost_ret (v := .tuple #[.agg #[.int .i64 y, .int .i64 m, .int .i64 (day - cnt y m 1 + 1)], .int .i64 0]) (by simp [results, Tryz.results17, go_sem]) rfl ⟨?_, ?_⟩
              · obtain ⟨e1, e2, e3⟩ := HE.out
                rw [e1, e2, e3]
              · exact (Below.refl _ _).alloc (Nat.le_refl _) _

      · go_wp2_with fail
        go_loop [5] (fun t => ∃ m : Int, 1 ≤ m ∧ m ≤ 12 ∧ cnt y m 1 ≤ day ∧ t = .int .i64 m) (fun t => (12 - intOf t).toNat)
        case atStart => exact ⟨1, by omega, by omega, HS.out, rfl⟩
        case round =>
          obtain ⟨m, hm1, hm2, hm3, rfl⟩ := hrel
          by_cases hc : m < 12 ∧ cnt y (m + 1) 1 ≤ day
          · obtain ⟨hlt, hd⟩ := hc
            go_wp2_with fail
            refine (count_any y (m + 1) 1 _ (by omega) (by omega) (by omega) (by omega) (by omega) (by omega)).mono ?_
            rintro e w' ⟨rfl, rfl⟩
            go_wp2
            go_round
            case rel => exact ⟨m + 1, by omega, by omega, hd, rfl⟩
            case measure => simp [intOf]; omega
          · have hn : m < 12 → day < cnt y (m + 1) 1 := by omega
            have HE := Lib.hid (HK.out m hm1 hm2 hm3 hn)
            have hbd : day - cnt y m 1 < 31 := by
              by_cases e : m = 12
              · subst e; have := cnt_dec y; omega
              · have := cnt_next y m hm1 (by omega); have := mlen_bd y m; have := hn (by omega); omega
            clear hc
            by_cases hlt : m < 12
            · have hn2 := hn hlt
              clear hn
              go_wp2_with fail
              refine (count_any y (m + 1) 1 _ (by omega) (by omega) (by omega) (by omega) (by omega) (by omega)).mono ?_
              rintro e w' ⟨rfl, rfl⟩
              go_wp2_with fail
              refine (count_any y m 1 _ (by omega) (by omega) (by omega) (by omega) (by omega) (by omega)).mono ?_
              rintro e w' ⟨rfl, rfl⟩
              go_wp2
              refine bodyPost_ret (v := .tuple #[.agg #[.int .i64 y, .int .i64 m, .int .i64 (day - cnt y m 1 + 1)], .int .i64 0]) (by simp [results, Tryz.results17, go_sem]) rfl ⟨?_, ?_⟩
              · obtain ⟨e1, e2, e3⟩ := HE.out
                rw [e1, e2, e3]
              · exact (Below.refl _ _).alloc (Nat.le_refl _) _
            · clear hn
              go_wp2_with fail
              refine (count_any y m 1 _ (by omega) (by omega) (by omega) (by omega) (by omega) (by omega)).mono ?_
              rintro e w' ⟨rfl, rfl⟩
              go_wp2
              refine bodyPost_ret (v := .tuple #[.agg #[.int .i64 y, .int .i64 m, .int .i64 (day - cnt y m 1 + 1)], .int .i64 0]) (by simp [results, Tryz.results17, go_sem]) rfl ⟨?_, ?_⟩
              · obtain ⟨e1, e2, e3⟩ := HE.out
                rw [e1, e2, e3]
              · exact (Below.refl _ _).alloc (Nat.le_refl _) _

end Go.Proofs.YthilkphnjffnhaaGreat
/- The walks of the packages civil (the rest) and week. -/
namespace Go.Proofs.YthilkphnjffnhaaGreat
open Go.RowKit
set_option linter.unusedVariables false
set_option linter.unusedSimpArgs false

theorem day_any (y m d : Int) (w : World) (h1 : 1 ≤ y) (h2 : y ≤ 9999) (h3 : 1 ≤ m) (h4 : m ≤ 12) (h5 : 1 ≤ d) (h6 : d ≤ mlen y m) :
    Calls Tryz.prog 69 #[.agg #[.int .i64 y, .int .i64 m, .int .i64 d]] w fun e w' => e = .returned (.tuple #[.int .i64 (cnt y m d), .int .i64 0]) ∧ Below w.heap.size w w' := by
  have hb := mlen_bd y m
  go_enter Tryz.func69, Tryz.ntmps69
  go_wp2_with fail
  refine (cvalid_yes y m d _ h1 h2 h3 h4 h5 h6).mono ?_
  rintro e w1 ⟨rfl, hb1⟩; obtain ⟨x, rfl⟩ := hb1.toExt; clear hb1
  go_wp2_with fail
  refine (count_any y m d _ h1 (by omega) h3 h4 h5 (by omega)).mono ?_
  rintro e w1 ⟨rfl, rfl⟩
  go_wp2
  go_ret2
  exact ⟨rfl, (by repeat (first | exact Below.refl _ _ | assumption | refine RowKit.Below.ext ?_ (by first | (simp; done) | (simp; omega) | omega) _ | refine Below.alloc ?_ (by first | (simp; done) | (simp; omega) | omega) _ | refine Below.drew ?_ | refine RowKit.Below.drawnN ?_ _ | refine Below.setCell ?_ (by first | (simp; done) | (simp; omega) | omega) _))⟩

theorem yearday_any (y m d : Int) (w : World) (h1 : 1 ≤ y) (h2 : y ≤ 9999) (h3 : 1 ≤ m) (h4 : m ≤ 12) (h5 : 1 ≤ d) (h6 : d ≤ mlen y m) :
    Calls Tryz.prog 19 #[.agg #[.int .i64 y, .int .i64 m, .int .i64 d]] w fun e w' => e = .returned (.int .i64 (cnt y m d - ny y + 1)) ∧ Below w.heap.size w w' := by
  have hb := mlen_bd y m
  have hj := cnt_jan y
  have hc := cnt_in y m h3 h4
  have hd := cnt_d y m d
  have hn := ny_lt y
  have q1 : -10000000 ≤ cnt y m d - ny y ∧ cnt y m d - ny y ≤ 10000000 := by omega
  have c1 := fun (w : World) => count_any y m d w h1 (by omega) h3 h4 h5 (by omega)
  have c2 := fun (w : World) => count_any y 1 1 w h1 (by omega) (by omega) (by omega) (by omega) (by omega)
  rw [hj] at c2
  have C1 := Lib.hid c1
  have C2 := Lib.hid c2
  clear hb hj hc hd hn c1 c2
  go_enter Tryz.func19, Tryz.ntmps19
  go_wp2_with fail
  refine (cvalid_yes y m d _ h1 h2 h3 h4 h5 h6).mono ?_
  rintro e w1 ⟨rfl, hb1⟩; obtain ⟨x, rfl⟩ := hb1.toExt; clear hb1
  go_wp2_with fail
  refine wp_region_calm (by kernel_rfl) (by kernel_rfl) ?_
  repeat (go_big_quiet_step ((first | (with_reducible exact Calls.calm_of_same ((C1.out _).mono fun _ _ h => h)) | (with_reducible exact Calls.calm_of_same ((C2.out _).mono fun _ _ h => h)))))
  refine wpQuiet_nil ?_
  rintro _ ⟨x, rfl⟩
  go_wp2
  go_ret
  exact ⟨rfl, (by repeat (first | exact Below.refl _ _ | assumption | refine RowKit.Below.ext ?_ (by first | (simp; done) | (simp; omega) | omega) _ | refine Below.alloc ?_ (by first | (simp; done) | (simp; omega) | omega) _ | refine Below.drew ?_ | refine RowKit.Below.drawnN ?_ _ | refine Below.setCell ?_ (by first | (simp; done) | (simp; omega) | omega) _))⟩

theorem cweekday_any (d : Int) (w : World) (h1 : -719162 ≤ d) (h2 : d < 2932897) :
    Calls Tryz.prog 18 #[.int .i64 d] w fun e w' => e = .returned (.int .i64 (wkd d)) ∧ ∃ n, w' = w.drewN n := by
  go_enter Tryz.func18, Tryz.ntmps18
  go_wp2_with fail
  refine (inside_yes d _ h1 h2).mono ?_
  rintro e w1 ⟨rfl, rfl⟩
  go_wp2_with fail
  refine (mod_any (d + 3) 7 _ (by omega) (by omega) (by omega) (by omega)).mono ?_
  rintro e w1 ⟨rfl, nd, rfl⟩
  go_wp2
  go_ret
  exact ⟨rfl, _, rfl⟩
theorem wweekday_any (d : Int) (w : World) (h1 : -100000000 ≤ d) (h2 : d < 100000000) :
    Calls Tryz.prog 45 #[.int .i64 d] w fun e w' => e = .returned (.int .i64 (wkd d)) ∧ ∃ n, w' = w.drewN n := by
  go_enter Tryz.func45, Tryz.ntmps45
  go_wp2_with fail
  refine (mod_any (d + 3) 7 _ (by omega) (by omega) (by omega) (by omega)).mono ?_
  rintro e w1 ⟨rfl, nd, rfl⟩
  go_wp2
  go_ret
  exact ⟨rfl, _, rfl⟩
theorem rweekday_any (d : Int) (w : World) (h1 : -100000000 ≤ d) (h2 : d < 100000000) :
    Calls Tryz.prog 75 #[.int .i64 d] w fun e w' => e = .returned (.int .i64 (wkd d)) ∧ ∃ n, w' = w.drewN n := by
  go_enter Tryz.func75, Tryz.ntmps75
  go_wp2_with fail
  refine (mod_any (d + 3) 7 _ (by omega) (by omega) (by omega) (by omega)).mono ?_
  rintro e w1 ⟨rfl, nd, rfl⟩
  go_wp2
  go_ret
  exact ⟨rfl, _, rfl⟩

theorem wnewyear_any (y : Int) (w : World) (h1 : 1 ≤ y) (h2 : y ≤ 10000) :
    Calls Tryz.prog 46 #[.int .i64 y] w fun e w' => e = .returned (.int .i64 (ny y)) ∧ Below w.heap.size w w' := by
  by_cases hy : y = 10000
  · subst hy
    rw [ny_10000]
    go_enter Tryz.func46, Tryz.ntmps46
    go_wp2
    go_ret
    exact ⟨rfl, Below.refl _ _⟩
  · have hj := cnt_jan y
    have HJ := Lib.hid hj
    clear hj
    have hb := mlen_bd y 1
    go_enter Tryz.func46, Tryz.ntmps46
    go_wp2_with fail
    refine (day_any y 1 1 _ h1 (by omega) (by omega) (by omega) (by omega) (by omega)).mono ?_
    rintro e w1 ⟨rfl, hb1⟩; obtain ⟨x, rfl⟩ := hb1.toExt; clear hb1
    rw [HJ.out]
    go_wp2
    go_ret
    exact ⟨rfl, (by repeat (first | exact Below.refl _ _ | assumption | refine RowKit.Below.ext ?_ (by first | (simp; done) | (simp; omega) | omega) _ | refine Below.alloc ?_ (by first | (simp; done) | (simp; omega) | omega) _ | refine Below.drew ?_ | refine RowKit.Below.drawnN ?_ _ | refine Below.setCell ?_ (by first | (simp; done) | (simp; omega) | omega) _))⟩
theorem enewyear_any (y : Int) (w : World) (h1 : 1 ≤ y) (h2 : y ≤ 10000) :
    Calls Tryz.prog 89 #[.int .i64 y] w fun e w' => e = .returned (.int .i64 (ny y)) ∧ Below w.heap.size w w' := by
  by_cases hy : y = 10000
  · subst hy
    rw [ny_10000]
    go_enter Tryz.func89, Tryz.ntmps89
    go_wp2
    go_ret
    exact ⟨rfl, Below.refl _ _⟩
  · have hj := cnt_jan y
    have HJ := Lib.hid hj
    clear hj
    have hb := mlen_bd y 1
    go_enter Tryz.func89, Tryz.ntmps89
    go_wp2_with fail
    refine (day_any y 1 1 _ h1 (by omega) (by omega) (by omega) (by omega) (by omega)).mono ?_
    rintro e w1 ⟨rfl, hb1⟩; obtain ⟨x, rfl⟩ := hb1.toExt; clear hb1
    rw [HJ.out]
    go_wp2
    go_ret
    exact ⟨rfl, (by repeat (first | exact Below.refl _ _ | assumption | refine RowKit.Below.ext ?_ (by first | (simp; done) | (simp; omega) | omega) _ | refine Below.alloc ?_ (by first | (simp; done) | (simp; omega) | omega) _ | refine Below.drew ?_ | refine RowKit.Below.drawnN ?_ _ | refine Below.setCell ?_ (by first | (simp; done) | (simp; omega) | omega) _))⟩
end Go.Proofs.YthilkphnjffnhaaGreat
/- The walks of the package week (the rest); months that are added. -/
namespace Go.Proofs.YthilkphnjffnhaaGreat
open Go.RowKit
set_option linter.unusedVariables false
set_option linter.unusedSimpArgs false

theorem ny_in (y : Int) (h1 : 0 ≤ y) (h2 : y ≤ 10001) : -800000 ≤ ny y ∧ ny y ≤ 3000000 := by unfold ny; omega

theorem begin_any (f mn y : Int) (w : World) (h1 : 1 ≤ y) (h2 : y ≤ 10000) (h3 : 1 ≤ f) (h4 : f ≤ 7) (h5 : 1 ≤ mn) (h6 : mn ≤ 7) :
    Calls Tryz.prog 43 #[.agg #[.int .i64 f, .int .i64 mn], .int .i64 y] w fun e w' => e = .returned (.int .i64 (beg f mn y)) ∧ Below w.heap.size w w' := by
  have hn := ny_in y (by omega) (by omega)
  have hw := wkd_bd (ny y)
  have hd : beg f mn y = if mn ≤ 7 - (wkd (ny y) - f) % 7 then ny y - (wkd (ny y) - f) % 7 else ny y - (wkd (ny y) - f) % 7 + 7 := rfl
  have hr : 0 ≤ (wkd (ny y) - f) % 7 ∧ (wkd (ny y) - f) % 7 < 7 := by omega
  have c1 := fun (w : World) => wweekday_any (ny y) w (by omega) (by omega)
  have c2 := fun (w : World) => mod_any (wkd (ny y) - f) 7 w (by omega) (by omega) (by omega) (by omega)
  have C1 := Lib.hid c1
  have C2 := Lib.hid c2
  clear c1 c2
  by_cases hc : mn ≤ 7 - (wkd (ny y) - f) % 7
  all_goals
    first | rw [if_pos hc] at hd | rw [if_neg hc] at hd
    rw [hd]
    clear hd
    go_enter Tryz.func43, Tryz.ntmps43
    go_wp2_with fail
    refine (wnewyear_any y _ h1 h2).mono ?_
    rintro e w1 ⟨rfl, hb1⟩; obtain ⟨x, rfl⟩ := hb1.toExt; clear hb1
    go_wp2_with fail
    refine wp_region_calm (by kernel_rfl) (by kernel_rfl) ?_
    repeat (go_big_quiet_step ((first | (with_reducible exact Calls.calm_of_drew (C1.out _)) | (with_reducible exact Calls.calm_of_drew (C2.out _)))))
    refine wpQuiet_nil ?_
    rintro _ ⟨x, rfl⟩
    go_wp2
    go_ret
    exact ⟨rfl, (by repeat (first | exact Below.refl _ _ | assumption | refine RowKit.Below.ext ?_ (by first | (simp; done) | (simp; omega) | omega) _ | refine Below.alloc ?_ (by first | (simp; done) | (simp; omega) | omega) _ | refine Below.drew ?_ | refine RowKit.Below.drawnN ?_ _ | refine Below.setCell ?_ (by first | (simp; done) | (simp; omega) | omega) _))⟩

theorem wvalid_any (f mn : Int) (w : World) :
    Calls Tryz.prog 21 #[.agg #[.int .i64 f, .int .i64 mn]] w fun e w' => e = .returned (.bool (decide (1 ≤ f ∧ f ≤ 7 ∧ 1 ≤ mn ∧ mn ≤ 7))) ∧ Below w.heap.size w w' := by
  by_cases a : 1 ≤ f
  · by_cases b : f ≤ 7
    · by_cases c : 1 ≤ mn
      · go_enter Tryz.func21, Tryz.ntmps21
        go_wp2
        go_ret
        exact ⟨by simp [a, b, c], (by repeat (first | exact Below.refl _ _ | assumption | refine RowKit.Below.ext ?_ (by first | (simp; done) | (simp; omega) | omega) _ | refine Below.alloc ?_ (by first | (simp; done) | (simp; omega) | omega) _ | refine Below.drew ?_ | refine RowKit.Below.drawnN ?_ _ | refine Below.setCell ?_ (by first | (simp; done) | (simp; omega) | omega) _))⟩
      · go_enter Tryz.func21, Tryz.ntmps21
        go_wp2
        go_ret
        exact ⟨by simp; omega, (by repeat (first | exact Below.refl _ _ | assumption | refine RowKit.Below.ext ?_ (by first | (simp; done) | (simp; omega) | omega) _ | refine Below.alloc ?_ (by first | (simp; done) | (simp; omega) | omega) _ | refine Below.drew ?_ | refine RowKit.Below.drawnN ?_ _ | refine Below.setCell ?_ (by first | (simp; done) | (simp; omega) | omega) _))⟩
    · go_enter Tryz.func21, Tryz.ntmps21
      go_wp2
      go_ret
      exact ⟨by simp; omega, (by repeat (first | exact Below.refl _ _ | assumption | refine RowKit.Below.ext ?_ (by first | (simp; done) | (simp; omega) | omega) _ | refine Below.alloc ?_ (by first | (simp; done) | (simp; omega) | omega) _ | refine Below.drew ?_ | refine RowKit.Below.drawnN ?_ _ | refine Below.setCell ?_ (by first | (simp; done) | (simp; omega) | omega) _))⟩
  · go_enter Tryz.func21, Tryz.ntmps21
    go_wp2
    go_ret
    exact ⟨by simp; omega, (by repeat (first | exact Below.refl _ _ | assumption | refine RowKit.Below.ext ?_ (by first | (simp; done) | (simp; omega) | omega) _ | refine Below.alloc ?_ (by first | (simp; done) | (simp; omega) | omega) _ | refine Below.drew ?_ | refine RowKit.Below.drawnN ?_ _ | refine Below.setCell ?_ (by first | (simp; done) | (simp; omega) | omega) _))⟩

theorem inyears_yes (d : Int) (w : World) (h1 : 1 ≤ d) (h2 : d ≤ 9999) :
    Calls Tryz.prog 44 #[.int .i64 d] w fun e w' => e = .returned (.bool true) ∧ w = w' := by
  go_enter Tryz.func44, Tryz.ntmps44
  go_wp2
  go_ret
  exact ⟨rfl, rfl⟩

theorem ordinal_any (day : Int) (w : World) (h1 : -719162 ≤ day) (h2 : day < 2932897) :
    Calls Tryz.prog 22 #[.int .i64 day] w fun e w' => e = .returned (.tuple #[.int .i64 (yr day), .int .i64 (day - ny (yr day) + 1), .int .i64 0]) ∧ Below w.heap.size w w' := by
  obtain ⟨y1, y2, y3, y4⟩ := yr_bd day h1 h2
  have hn := ny_lt (yr day)
  have q : 0 ≤ day - ny (yr day) ∧ day - ny (yr day) ≤ 366 := by omega
  have c1 := fun (w : World) => wnewyear_any (yr day) w (by omega) (by omega)
  have C1 := Lib.hid c1
  clear c1 hn y3 y4
  go_enter Tryz.func22, Tryz.ntmps22
  go_wp2_with fail
  refine (date_any day _ h1 h2).mono ?_
  rintro e w1 ⟨rfl, hb1⟩; obtain ⟨x, rfl⟩ := hb1.toExt; clear hb1
  go_wp2_with fail
  refine wp_region_calm (by kernel_rfl) (by kernel_rfl) ?_
  repeat (go_big_quiet_step ((with_reducible exact Calls.calm_of (C1.out _))))
  refine wpQuiet_nil ?_
  rintro _ ⟨x, rfl⟩
  go_wp2
  go_ret3
  exact ⟨rfl, (by repeat (first | exact Below.refl _ _ | assumption | refine RowKit.Below.ext ?_ (by first | (simp; done) | (simp; omega) | omega) _ | refine Below.alloc ?_ (by first | (simp; done) | (simp; omega) | omega) _ | refine Below.drew ?_ | refine RowKit.Below.drawnN ?_ _ | refine Below.setCell ?_ (by first | (simp; done) | (simp; omega) | omega) _))⟩

theorem wof_no (f mn day : Int) (w : World) (h : ¬ (1 ≤ f ∧ f ≤ 7 ∧ 1 ≤ mn ∧ mn ≤ 7)) :
    Calls Tryz.prog 20 #[.agg #[.int .i64 f, .int .i64 mn], .int .i64 day] w fun e w' => e = .returned (.tuple #[.agg #[.int .i64 0, .int .i64 0, .int .i64 0], .int .i64 1]) ∧ Below w.heap.size w w' := by
  have c1 := fun (w : World) => wvalid_any f mn w
  rw [decide_eq_false h] at c1
  have C1 := Lib.hid c1
  clear c1
  go_enter Tryz.func20, Tryz.ntmps20
  go_wp2_with fail
  refine (C1.out _).mono ?_
  rintro e w1 ⟨rfl, hb1⟩; obtain ⟨x, rfl⟩ := hb1.toExt; clear hb1
  go_wp2
  exact bodyPost_ret (v := .tuple #[.agg #[.int .i64 0, .int .i64 0, .int .i64 0], .int .i64 1]) (by simp [results, Tryz.results20, go_sem]) rfl ⟨rfl, (by repeat (first | exact Below.refl _ _ | assumption | refine RowKit.Below.ext ?_ (by first | (simp; done) | (simp; omega) | omega) _ | refine Below.alloc ?_ (by first | (simp; done) | (simp; omega) | omega) _ | refine Below.drew ?_ | refine RowKit.Below.drawnN ?_ _ | refine Below.setCell ?_ (by first | (simp; done) | (simp; omega) | omega) _))⟩
set_option maxHeartbeats 2000000 in
theorem wof_yes (f mn day : Int) (w : World) (h : 1 ≤ f ∧ f ≤ 7 ∧ 1 ≤ mn ∧ mn ≤ 7) (h1 : -719162 + 400 ≤ day) (h2 : day < 2932897 - 400) :
    Calls Tryz.prog 20 #[.agg #[.int .i64 f, .int .i64 mn], .int .i64 day] w fun e w' => e = .returned (.tuple #[.agg #[.int .i64 (wkY f mn day), .int .i64 ((day - beg f mn (wkY f mn day)) / 7 + 1), .int .i64 (wkd day)], .int .i64 0]) ∧ Below w.heap.size w w' := by
  have c1 := fun (w : World) => wvalid_any f mn w
  rw [decide_eq_true h] at c1
  obtain ⟨g1, g2, g3, g4⟩ := h
  obtain ⟨y1, y2, y3, y4⟩ := yr_bd day (by omega) (by omega)
  obtain ⟨v1, v2, v3⟩ := wkY_bd f mn day g4 g3 (by omega) (by omega)
  have hlo : 2 ≤ yr day := by
    rcases Int.lt_or_le (yr day) 2 with hl | hl
    · have := ny_mono (yr day + 1) 2 (by omega); have e : ny 2 = -718797 := by decide
      omega
    · exact hl
  have hhi : yr day ≤ 9998 := by
    rcases Int.lt_or_le 9998 (yr day) with hl | hl
    · have := ny_mono 9999 (yr day) (by omega); have e : ny 9999 = 2932532 := by decide
      omega
    · exact hl
  have hb0 := beg_bd f mn (wkY f mn day)
  have hnn := ny_in (wkY f mn day) (by omega) (by omega)
  have hw : wkY f mn day = if day < beg f mn (yr day) then yr day - 1 else if beg f mn (yr day + 1) ≤ day then yr day + 1 else yr day := rfl
  have C1 := Lib.hid c1
  clear c1 y3 y4
  by_cases ca : day < beg f mn (yr day)
  · rw [if_pos ca] at hw
    rw [hw] at v1 v2 v3 hb0 hnn ⊢
    clear hw
    go_enter Tryz.func20, Tryz.ntmps20
    go_wp2_with fail
    refine (C1.out _).mono ?_
    rintro e w1 ⟨rfl, hb1⟩; obtain ⟨x, rfl⟩ := hb1.toExt; clear hb1
    go_wp2_with fail
    refine (date_any day _ (by omega) (by omega)).mono ?_
    rintro e w1 ⟨rfl, hb1⟩; obtain ⟨x, rfl⟩ := hb1.toExt; clear hb1
    go_wp2_with fail
    refine (begin_any f mn (yr day) _ (by omega) (by omega) g1 g2 g3 g4).mono ?_
    rintro e w1 ⟨rfl, hb1⟩; obtain ⟨x, rfl⟩ := hb1.toExt; clear hb1
    go_wp2_with fail
    refine (inyears_yes (yr day - 1) _ (by omega) (by omega)).mono ?_
    rintro e w1 ⟨rfl, rfl⟩
    go_wp2_with fail
    refine (begin_any f mn (yr day - 1) _ (by omega) (by omega) g1 g2 g3 g4).mono ?_
    rintro e w1 ⟨rfl, hb1⟩; obtain ⟨x, rfl⟩ := hb1.toExt; clear hb1
    go_wp2_with fail
    refine (wweekday_any day _ (by omega) (by omega)).mono ?_
    rintro e w1 ⟨rfl, nd, rfl⟩
    go_wp2
    exact bodyPost_ret (v := .tuple #[.agg #[.int .i64 (yr day - 1), .int .i64 ((day - beg f mn (yr day - 1)) / 7 + 1), .int .i64 (wkd day)], .int .i64 0]) (by simp [results, Tryz.results20, go_sem]) rfl ⟨rfl, (by repeat (first | exact Below.refl _ _ | assumption | refine RowKit.Below.ext ?_ (by first | (simp; done) | (simp; omega) | omega) _ | refine Below.alloc ?_ (by first | (simp; done) | (simp; omega) | omega) _ | refine Below.drew ?_ | refine RowKit.Below.drawnN ?_ _ | refine Below.setCell ?_ (by first | (simp; done) | (simp; omega) | omega) _))⟩
  · rw [if_neg ca] at hw
    by_cases cb : beg f mn (yr day + 1) ≤ day
    · rw [if_pos cb] at hw
      rw [hw] at v1 v2 v3 hb0 hnn ⊢
      clear hw
      go_enter Tryz.func20, Tryz.ntmps20
      go_wp2_with fail
      refine (C1.out _).mono ?_
      rintro e w1 ⟨rfl, hb1⟩; obtain ⟨x, rfl⟩ := hb1.toExt; clear hb1
      go_wp2_with fail
      refine (date_any day _ (by omega) (by omega)).mono ?_
      rintro e w1 ⟨rfl, hb1⟩; obtain ⟨x, rfl⟩ := hb1.toExt; clear hb1
      go_wp2_with fail
      refine (begin_any f mn (yr day) _ (by omega) (by omega) g1 g2 g3 g4).mono ?_
      rintro e w1 ⟨rfl, hb1⟩; obtain ⟨x, rfl⟩ := hb1.toExt; clear hb1
      go_wp2_with fail
      refine (begin_any f mn (yr day + 1) _ (by omega) (by omega) g1 g2 g3 g4).mono ?_
      rintro e w1 ⟨rfl, hb1⟩; obtain ⟨x, rfl⟩ := hb1.toExt; clear hb1
      go_wp2_with fail
      refine (inyears_yes (yr day + 1) _ (by omega) (by omega)).mono ?_
      rintro e w1 ⟨rfl, rfl⟩
      go_wp2_with fail
      refine (begin_any f mn (yr day + 1) _ (by omega) (by omega) g1 g2 g3 g4).mono ?_
      rintro e w1 ⟨rfl, hb1⟩; obtain ⟨x, rfl⟩ := hb1.toExt; clear hb1
      go_wp2_with fail
      refine (wweekday_any day _ (by omega) (by omega)).mono ?_
      rintro e w1 ⟨rfl, nd, rfl⟩
      go_wp2
      exact bodyPost_ret (v := .tuple #[.agg #[.int .i64 (yr day + 1), .int .i64 ((day - beg f mn (yr day + 1)) / 7 + 1), .int .i64 (wkd day)], .int .i64 0]) (by simp [results, Tryz.results20, go_sem]) rfl ⟨rfl, (by repeat (first | exact Below.refl _ _ | assumption | refine RowKit.Below.ext ?_ (by first | (simp; done) | (simp; omega) | omega) _ | refine Below.alloc ?_ (by first | (simp; done) | (simp; omega) | omega) _ | refine Below.drew ?_ | refine RowKit.Below.drawnN ?_ _ | refine Below.setCell ?_ (by first | (simp; done) | (simp; omega) | omega) _))⟩
    · rw [if_neg cb] at hw
      rw [hw] at v1 v2 v3 hb0 hnn ⊢
      clear hw
      go_enter Tryz.func20, Tryz.ntmps20
      go_wp2_with fail
      refine (C1.out _).mono ?_
      rintro e w1 ⟨rfl, hb1⟩; obtain ⟨x, rfl⟩ := hb1.toExt; clear hb1
      go_wp2_with fail
      refine (date_any day _ (by omega) (by omega)).mono ?_
      rintro e w1 ⟨rfl, hb1⟩; obtain ⟨x, rfl⟩ := hb1.toExt; clear hb1
      go_wp2_with fail
      refine (begin_any f mn (yr day) _ (by omega) (by omega) g1 g2 g3 g4).mono ?_
      rintro e w1 ⟨rfl, hb1⟩; obtain ⟨x, rfl⟩ := hb1.toExt; clear hb1
      go_wp2_with fail
      refine (begin_any f mn (yr day + 1) _ (by omega) (by omega) g1 g2 g3 g4).mono ?_
      rintro e w1 ⟨rfl, hb1⟩; obtain ⟨x, rfl⟩ := hb1.toExt; clear hb1
      go_wp2_with fail
      refine (inyears_yes (yr day) _ (by omega) (by omega)).mono ?_
      rintro e w1 ⟨rfl, rfl⟩
      go_wp2_with fail
      refine (begin_any f mn (yr day) _ (by omega) (by omega) g1 g2 g3 g4).mono ?_
      rintro e w1 ⟨rfl, hb1⟩; obtain ⟨x, rfl⟩ := hb1.toExt; clear hb1
      go_wp2_with fail
      refine (wweekday_any day _ (by omega) (by omega)).mono ?_
      rintro e w1 ⟨rfl, nd, rfl⟩
      go_wp2
      exact bodyPost_ret (v := .tuple #[.agg #[.int .i64 (yr day), .int .i64 ((day - beg f mn (yr day)) / 7 + 1), .int .i64 (wkd day)], .int .i64 0]) (by simp [results, Tryz.results20, go_sem]) rfl ⟨rfl, (by repeat (first | exact Below.refl _ _ | assumption | refine RowKit.Below.ext ?_ (by first | (simp; done) | (simp; omega) | omega) _ | refine Below.alloc ?_ (by first | (simp; done) | (simp; omega) | omega) _ | refine Below.drew ?_ | refine RowKit.Below.drawnN ?_ _ | refine Below.setCell ?_ (by first | (simp; done) | (simp; omega) | omega) _))⟩
end Go.Proofs.YthilkphnjffnhaaGreat
/- Months that are added. -/
namespace Go.Proofs.YthilkphnjffnhaaGreat
open Go.RowKit
set_option linter.unusedVariables false
set_option linter.unusedSimpArgs false

theorem add_any (a b : Int) (w : World) (h1 : 0 ≤ a) (h2 : a < 4611686018427387904) (h3 : -4611686018427387904 < b) (h4 : b < 4611686018427387904) :
    Calls Tryz.prog 47 #[.int .i64 a, .int .i64 b] w fun e w' => e = .returned (.tuple #[.int .i64 (a + b), .int .i64 0]) ∧ w = w' := by
  have c1 : decide (0 ≤ a) = true := by simp [h1]
  by_cases hb : 0 ≤ b
  · have c2 : decide (0 ≤ b) = true := by simp [hb]
    have c3 : decide (0 ≤ a + b) = true := by simp; omega
    go_enter Tryz.func47, Tryz.ntmps47
    go_wp2
    go_ret2
    exact ⟨rfl, rfl⟩
  · have c2 : decide (0 ≤ b) = false := by simp; omega
    go_enter Tryz.func47, Tryz.ntmps47
    go_wp2
    go_ret2
    exact ⟨rfl, rfl⟩
theorem year_no (d : Int) (w : World) (h : d < 1 ∨ 9999 < d) :
    Calls Tryz.prog 48 #[.int .i64 d] w fun e w' => e = .returned (.bool false) ∧ w = w' := by
  by_cases h1 : 1 ≤ d
  · have h2 : decide (d ≤ 9999) = false := by simp; omega
    go_enter Tryz.func48, Tryz.ntmps48
    go_wp2
    go_ret
    exact ⟨rfl, rfl⟩
  · go_enter Tryz.func48, Tryz.ntmps48
    go_wp2
    go_ret
    exact ⟨rfl, rfl⟩

set_option maxHeartbeats 2000000 in
theorem addmonths_any (y m d n : Int) (w : World) (h1 : 1 ≤ y) (h2 : y ≤ 9999) (h3 : 1 ≤ m) (h4 : m ≤ 12) (h5 : 1 ≤ d) (h6 : d ≤ mlen y m) (h7 : -100000 ≤ n) (h8 : n ≤ 100000) :
    Calls Tryz.prog 23 #[.agg #[.int .i64 y, .int .i64 m, .int .i64 d], .int .i64 n] w fun e w' =>
      (if 1 ≤ (12 * y + m - 1 + n) / 12 ∧ (12 * y + m - 1 + n) / 12 ≤ 9999
        then e = .returned (.tuple #[.agg #[.int .i64 ((12 * y + m - 1 + n) / 12), .int .i64 ((12 * y + m - 1 + n) % 12 + 1), .int .i64 (if mlen ((12 * y + m - 1 + n) / 12) ((12 * y + m - 1 + n) % 12 + 1) < d then mlen ((12 * y + m - 1 + n) / 12) ((12 * y + m - 1 + n) % 12 + 1) else d)], .int .i64 0])
        else e = .returned (.tuple #[.agg #[.int .i64 0, .int .i64 0, .int .i64 0], .int .i64 2])) ∧ Below w.heap.size w w' := by
  have hb := mlen_bd y m
  by_cases hc : 1 ≤ (12 * y + m - 1 + n) / 12 ∧ (12 * y + m - 1 + n) / 12 ≤ 9999
  · simp only [if_pos hc]
    obtain ⟨q1, q2⟩ := hc
    have cL := fun (w : World) => length_any ((12 * y + m - 1 + n) / 12) ((12 * y + m - 1 + n) % 12 + 1) w q1 q2 (by omega) (by omega)
    have CL := Lib.hid cL
    clear cL
    by_cases hq : mlen ((12 * y + m - 1 + n) / 12) ((12 * y + m - 1 + n) % 12 + 1) < d
    · rw [if_pos hq]
      go_enter Tryz.func23, Tryz.ntmps23
      go_wp2_with fail
      refine (cvalid_yes y m d _ h1 h2 h3 h4 h5 h6).mono ?_
      rintro e w1 ⟨rfl, hb1⟩; obtain ⟨x, rfl⟩ := hb1.toExt; clear hb1
      go_wp2_with fail
      refine (add_any (12 * y + m - 1) n _ (by omega) (by omega) (by omega) (by omega)).mono ?_
      rintro e w1 ⟨rfl, rfl⟩
      go_wp2_with fail
      refine (floor_any (12 * y + m - 1 + n) 12 _ (by omega) (by omega) (by omega) (by omega)).mono ?_
      rintro e w1 ⟨rfl, nd, rfl⟩
      go_wp2_with fail
      refine (year_yes _ _ q1 q2).mono ?_
      rintro e w1 ⟨rfl, rfl⟩
      go_wp2_with fail
      refine (mod_any (12 * y + m - 1 + n) 12 _ (by omega) (by omega) (by omega) (by omega)).mono ?_
      rintro e w1 ⟨rfl, nd, rfl⟩
      go_wp2_with fail
      refine wp_region_calm_tail 9 (by kernel_rfl) (by kernel_rfl) ?_
      simp only [List.take_succ_cons, List.take_zero, List.drop_succ_cons, List.drop_zero]
      repeat (go_big_quiet_step ((with_reducible exact Calls.calm_of_same ((CL.out _).mono fun _ _ h => h))))
      refine wpQuiet_nil ?_
      rintro _ ⟨x, rfl⟩
      go_wp2
      exact bodyPost_ret (v := .tuple #[.agg #[.int .i64 ((12 * y + m - 1 + n) / 12), .int .i64 ((12 * y + m - 1 + n) % 12 + 1), .int .i64 (mlen ((12 * y + m - 1 + n) / 12) ((12 * y + m - 1 + n) % 12 + 1))], .int .i64 0]) (by simp [results, Tryz.results23, go_sem]) rfl ⟨rfl, (by repeat (first | exact Below.refl _ _ | assumption | refine RowKit.Below.ext ?_ (by first | (simp; done) | (simp; omega) | omega) _ | refine Below.alloc ?_ (by first | (simp; done) | (simp; omega) | omega) _ | refine Below.drew ?_ | refine RowKit.Below.drawnN ?_ _ | refine Below.setCell ?_ (by first | (simp; done) | (simp; omega) | omega) _))⟩
    · rw [if_neg hq]
      go_enter Tryz.func23, Tryz.ntmps23
      go_wp2_with fail
      refine (cvalid_yes y m d _ h1 h2 h3 h4 h5 h6).mono ?_
      rintro e w1 ⟨rfl, hb1⟩; obtain ⟨x, rfl⟩ := hb1.toExt; clear hb1
      go_wp2_with fail
      refine (add_any (12 * y + m - 1) n _ (by omega) (by omega) (by omega) (by omega)).mono ?_
      rintro e w1 ⟨rfl, rfl⟩
      go_wp2_with fail
      refine (floor_any (12 * y + m - 1 + n) 12 _ (by omega) (by omega) (by omega) (by omega)).mono ?_
      rintro e w1 ⟨rfl, nd, rfl⟩
      go_wp2_with fail
      refine (year_yes _ _ q1 q2).mono ?_
      rintro e w1 ⟨rfl, rfl⟩
      go_wp2_with fail
      refine (mod_any (12 * y + m - 1 + n) 12 _ (by omega) (by omega) (by omega) (by omega)).mono ?_
      rintro e w1 ⟨rfl, nd, rfl⟩
      go_wp2_with fail
      refine wp_region_calm_tail 9 (by kernel_rfl) (by kernel_rfl) ?_
      simp only [List.take_succ_cons, List.take_zero, List.drop_succ_cons, List.drop_zero]
      repeat (go_big_quiet_step ((with_reducible exact Calls.calm_of_same ((CL.out _).mono fun _ _ h => h))))
      refine wpQuiet_nil ?_
      rintro _ ⟨x, rfl⟩
      go_wp2
      exact bodyPost_ret (v := .tuple #[.agg #[.int .i64 ((12 * y + m - 1 + n) / 12), .int .i64 ((12 * y + m - 1 + n) % 12 + 1), .int .i64 d], .int .i64 0]) (by simp [results, Tryz.results23, go_sem]) rfl ⟨rfl, (by repeat (first | exact Below.refl _ _ | assumption | refine RowKit.Below.ext ?_ (by first | (simp; done) | (simp; omega) | omega) _ | refine Below.alloc ?_ (by first | (simp; done) | (simp; omega) | omega) _ | refine Below.drew ?_ | refine RowKit.Below.drawnN ?_ _ | refine Below.setCell ?_ (by first | (simp; done) | (simp; omega) | omega) _))⟩
  · simp only [if_neg hc]
    go_enter Tryz.func23, Tryz.ntmps23
    go_wp2_with fail
    refine (cvalid_yes y m d _ h1 h2 h3 h4 h5 h6).mono ?_
    rintro e w1 ⟨rfl, hb1⟩; obtain ⟨x, rfl⟩ := hb1.toExt; clear hb1
    go_wp2_with fail
    refine (add_any (12 * y + m - 1) n _ (by omega) (by omega) (by omega) (by omega)).mono ?_
    rintro e w1 ⟨rfl, rfl⟩
    go_wp2_with fail
    refine (floor_any (12 * y + m - 1 + n) 12 _ (by omega) (by omega) (by omega) (by omega)).mono ?_
    rintro e w1 ⟨rfl, nd, rfl⟩
    go_wp2_with fail
    refine (year_no _ _ (by omega)).mono ?_
    rintro e w1 ⟨rfl, rfl⟩
    go_wp2
    exact bodyPost_ret (v := .tuple #[.agg #[.int .i64 0, .int .i64 0, .int .i64 0], .int .i64 2]) (by simp [results, Tryz.results23, go_sem]) rfl ⟨rfl, (by repeat (first | exact Below.refl _ _ | assumption | refine RowKit.Below.ext ?_ (by first | (simp; done) | (simp; omega) | omega) _ | refine Below.alloc ?_ (by first | (simp; done) | (simp; omega) | omega) _ | refine Below.drew ?_ | refine RowKit.Below.drawnN ?_ _ | refine Below.setCell ?_ (by first | (simp; done) | (simp; omega) | omega) _))⟩
end Go.Proofs.YthilkphnjffnhaaGreat
