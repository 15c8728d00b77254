/- The walk of cycleDay. -/
import Derived.Test.YthilkphnjffnhaaGreatJB
import Derived.Test.YthilkphnjffnhaaGreatJG
import Derived.BigQuiet
import Derived.StillTail
namespace Go.Proofs.YthilkphnjffnhaaGreat
open Go.RowKit
set_option linter.unusedVariables false
set_option linter.unusedSimpArgs false
set_option maxRecDepth 100000 in
set_option maxHeartbeats 16000000 in
theorem cycleday_no (day f mn n : Int) (w : World) (h1 : -718362 ≤ day) (h2 : day < 2786000) (h3 : -100000 ≤ n) (h4 : n ≤ 100000) (hr : ¬ (1 ≤ f ∧ f ≤ 7 ∧ 1 ≤ mn ∧ mn ≤ 7)) :
    Calls Tryz.prog 6 #[.int .i64 day, .agg #[.int .i64 f, .int .i64 mn], .int .i64 n] w fun e w' => e = .returned (.bool true) ∧ Below w.heap.size w w' := by
  obtain ⟨e1, e2, e3⟩ := dt_400 day (by omega) (by omega)
  have hd := date_of day (by omega) (by omega)
  obtain ⟨y1, y2, m1, m2, d1, d2, hcnt⟩ := hd
  have CA := Lib.hid (fun w => date_any day w (by omega) (by omega))
  have CB := Lib.hid (fun w => date_any (day + 146097) w (by omega) (by omega))
  have CW := Lib.hid (fun w => cweekday_any day w (by omega) (by omega))
  have CX := Lib.hid (fun w => cweekday_any (day + 146097) w (by omega) (by omega))
  rw [e1, e2, e3] at CB
  rw [wkd_400] at CX
  have hyb := yr_bd day (by omega) (by omega)
  have hy9 : yr day ≤ 9599 := by
    rcases Int.lt_or_le (yr day) 9600 with h | h
    · omega
    · have : ny 9600 = 2786800 := by decide
      have hm : ny 9600 ≤ ny (yr day) := by unfold ny; omega
      omega
  have CYA := Lib.hid (fun w => yearday_any (yr day) (mo day) (dm day) w y1 y2 m1 m2 d1 d2)
  have CYB := Lib.hid (fun w => yearday_any (yr day + 400) (mo day) (dm day) w (by omega) (by omega) m1 m2 d1 (by rw [mlen_400]; exact d2))
  rw [cnt_400, ny_400, show cnt (yr day) (mo day) (dm day) + 146097 - (ny (yr day) + 146097) + 1 = cnt (yr day) (mo day) (dm day) - ny (yr day) + 1 by omega] at CYB
  have CMA := Lib.hid (fun w => addmonths_any (yr day) (mo day) (dm day) n w y1 y2 m1 m2 d1 d2 h3 h4)
  have CMB := Lib.hid (fun w => addmonths_any (yr day + 400) (mo day) (dm day) n w (by omega) (by omega) m1 m2 d1 (by rw [mlen_400]; exact d2) h3 h4)
  have COA := Lib.hid (fun w => ordinal_any day w (by omega) (by omega))
  have COB := Lib.hid (fun w => ordinal_any (day + 146097) w (by omega) (by omega))
  have hc12 := cnt_in (yr day) (mo day) m1 m2
  have hcd : cnt (yr day) (mo day) (dm day) = day := by
    have : cnt (yr day) (mo day) (dm day) = cnt (yr day) (mo day) 1 + (dm day - 1) := by unfold cnt cnt0; split <;> omega
    omega
  rw [e1, ny_400, show day + 146097 - (ny (yr day) + 146097) + 1 = day - ny (yr day) + 1 by omega] at COB
  rw [hcd] at CYA CYB
  have hwb := wkd_bd day
  generalize wkd day = wv at *
  obtain ⟨Y, hY⟩ : ∃ Y, Y = (12 * yr day + mo day - 1 + n) / 12 := ⟨_, rfl⟩
  obtain ⟨Mo, hMo⟩ : ∃ Mo, Mo = (12 * yr day + mo day - 1 + n) % 12 + 1 := ⟨_, rfl⟩
  have eY : (12 * (yr day + 400) + mo day - 1 + n) / 12 = Y + 400 := by rw [hY]; omega
  have eM : (12 * (yr day + 400) + mo day - 1 + n) % 12 + 1 = Mo := by rw [hMo]; omega
  rw [eY, eM, mlen_400] at CMB
  rw [← hY, ← hMo] at CMA
  obtain ⟨D, hD⟩ : ∃ D, D = (if mlen Y Mo < dm day then mlen Y Mo else dm day) := ⟨_, rfl⟩
  rw [← hD] at CMA CMB
  obtain ⟨yv, hyv⟩ : ∃ yv, yv = day - ny (yr day) + 1 := ⟨_, rfl⟩
  rw [← hyv] at CYA CYB COA COB
  have z1 : (yv == 0) = false := by simp; omega
  have z2 : (wv == 0) = false := by simp; omega
  have hYb : -100000 ≤ Y ∧ Y ≤ 100000 := by omega
  obtain ⟨hYb1, hYb2⟩ := hYb
  clear e1 e2 e3 hcnt hyb hc12 hcd hwb hY hMo eY eM hD hyv m1 m2 d1 d2
  generalize yr day = y at *
  generalize mo day = m at *
  generalize dm day = d at *
  have CO1 := Lib.hid (fun w => wof_no f mn day w hr)
  have CO2 := Lib.hid (fun w => wof_no f mn (day + 146097) w hr)
  have CV := Lib.hid (fun w => wvalid_any f mn w)
  rw [decide_eq_false hr] at CV
  clear hr
  go_enter Tryz.func6, Tryz.ntmps6
  go_wp2_with fail
  refine (CA.out _).mono ?_
  rintro e w1 ⟨rfl, hb1⟩; obtain ⟨x, rfl⟩ := hb1.toExt; clear hb1
  go_wp2_with fail
  refine (CB.out _).mono ?_
  rintro e w1 ⟨rfl, hb1⟩; obtain ⟨x2, rfl⟩ := hb1.toExt; clear hb1
  go_wp2_with refine wp_region_calm (by kernel_rfl) (by kernel_rfl) ?_
  repeat (go_big_quiet_step (first | (with_reducible exact Calls.calm_of_drew (CW.out _)) | (with_reducible exact Calls.calm_of_drew (CX.out _)) | (with_reducible exact Calls.calm_of (CYA.out _)) | (with_reducible exact Calls.calm_of (CYB.out _))))
  refine wpQuiet_nil ?_
  rintro _ ⟨xx, rfl⟩
  go_wp2_with fail
  refine (CO1.out _).mono ?_
  rintro e w1 ⟨rfl, hb1⟩; obtain ⟨x3, rfl⟩ := hb1.toExt; clear hb1
  go_wp2_with fail
  refine (CO2.out _).mono ?_
  rintro e w1 ⟨rfl, hb1⟩; obtain ⟨x4, rfl⟩ := hb1.toExt; clear hb1
  go_wp2_with fail
  refine (CV.out _).mono ?_
  rintro e w1 ⟨rfl, hb1⟩; obtain ⟨x5, rfl⟩ := hb1.toExt; clear hb1
  go_wp2_with fail
  refine (COA.out _).mono ?_
  rintro e w1 ⟨rfl, hb1⟩; obtain ⟨x6, rfl⟩ := hb1.toExt; clear hb1
  go_wp2_with fail
  refine (COB.out _).mono ?_
  rintro e w1 ⟨rfl, hb1⟩; obtain ⟨x7, rfl⟩ := hb1.toExt; clear hb1
  go_wp2_with fail
  by_cases q1 : 1 ≤ Y ∧ Y ≤ 9999
  · simp only [if_pos q1] at CMA
    by_cases q2 : 1 ≤ Y + 400 ∧ Y + 400 ≤ 9999
    · simp only [if_pos q2] at CMB
      have g1 : ¬ 9999 < Y + 400 := by omega
      clear q1 q2
      refine (CMA.out _).mono ?_
      rintro e w1 ⟨rfl, hb1⟩; obtain ⟨x8, rfl⟩ := hb1.toExt; clear hb1
      go_wp2_with fail
      refine (CMB.out _).mono ?_
      rintro e w1 ⟨rfl, hb1⟩; obtain ⟨x9, rfl⟩ := hb1.toExt; clear hb1
      go_wp2
      go_ret
      exact ⟨rfl, (by repeat (first | (with_reducible exact Below.refl _ _) | (with_reducible assumption) | (with_reducible refine RowKit.Below.ext ?_ ?_ _) | (with_reducible refine Below.alloc ?_ ?_ _) | (with_reducible refine Below.drew ?_) | (with_reducible refine RowKit.Below.drawnN ?_ _) | (with_reducible refine Below.setCell ?_ ?_ _) | (exact (by first | (simp; done) | (simp; omega) | omega))))⟩
    · simp only [if_neg q2] at CMB
      have g1 : 9999 < Y + 400 := by omega
      clear q1 q2
      refine (CMA.out _).mono ?_
      rintro e w1 ⟨rfl, hb1⟩; obtain ⟨x8, rfl⟩ := hb1.toExt; clear hb1
      go_wp2_with fail
      refine (CMB.out _).mono ?_
      rintro e w1 ⟨rfl, hb1⟩; obtain ⟨x9, rfl⟩ := hb1.toExt; clear hb1
      go_wp2
      go_ret
      exact ⟨rfl, (by repeat (first | (with_reducible exact Below.refl _ _) | (with_reducible assumption) | (with_reducible refine RowKit.Below.ext ?_ ?_ _) | (with_reducible refine Below.alloc ?_ ?_ _) | (with_reducible refine Below.drew ?_) | (with_reducible refine RowKit.Below.drawnN ?_ _) | (with_reducible refine Below.setCell ?_ ?_ _) | (exact (by first | (simp; done) | (simp; omega) | omega))))⟩
  · simp only [if_neg q1] at CMA
    by_cases q2 : 1 ≤ Y + 400 ∧ Y + 400 ≤ 9999
    · simp only [if_pos q2] at CMB
      clear q1 q2
      refine (CMA.out _).mono ?_
      rintro e w1 ⟨rfl, hb1⟩; obtain ⟨x8, rfl⟩ := hb1.toExt; clear hb1
      go_wp2_with fail
      refine (CMB.out _).mono ?_
      rintro e w1 ⟨rfl, hb1⟩; obtain ⟨x9, rfl⟩ := hb1.toExt; clear hb1
      go_wp2
      go_ret
      exact ⟨rfl, (by repeat (first | (with_reducible exact Below.refl _ _) | (with_reducible assumption) | (with_reducible refine RowKit.Below.ext ?_ ?_ _) | (with_reducible refine Below.alloc ?_ ?_ _) | (with_reducible refine Below.drew ?_) | (with_reducible refine RowKit.Below.drawnN ?_ _) | (with_reducible refine Below.setCell ?_ ?_ _) | (exact (by first | (simp; done) | (simp; omega) | omega))))⟩
    · simp only [if_neg q2] at CMB
      clear q1 q2
      refine (CMA.out _).mono ?_
      rintro e w1 ⟨rfl, hb1⟩; obtain ⟨x8, rfl⟩ := hb1.toExt; clear hb1
      go_wp2_with fail
      refine (CMB.out _).mono ?_
      rintro e w1 ⟨rfl, hb1⟩; obtain ⟨x9, rfl⟩ := hb1.toExt; clear hb1
      go_wp2
      go_ret
      exact ⟨rfl, (by repeat (first | (with_reducible exact Below.refl _ _) | (with_reducible assumption) | (with_reducible refine RowKit.Below.ext ?_ ?_ _) | (with_reducible refine Below.alloc ?_ ?_ _) | (with_reducible refine Below.drew ?_) | (with_reducible refine RowKit.Below.drawnN ?_ _) | (with_reducible refine Below.setCell ?_ ?_ _) | (exact (by first | (simp; done) | (simp; omega) | omega))))⟩
set_option maxRecDepth 100000 in
set_option maxHeartbeats 16000000 in
theorem cycleday_yes (day f mn n : Int) (w : World) (h1 : -718362 ≤ day) (h2 : day < 2786000) (h3 : -100000 ≤ n) (h4 : n ≤ 100000) (hr : 1 ≤ f ∧ f ≤ 7 ∧ 1 ≤ mn ∧ mn ≤ 7) :
    Calls Tryz.prog 6 #[.int .i64 day, .agg #[.int .i64 f, .int .i64 mn], .int .i64 n] w fun e w' => e = .returned (.bool true) ∧ Below w.heap.size w w' := by
  have CO1 := Lib.hid (fun w => wof_yes f mn day w hr (by omega) (by omega))
  have CO2 := Lib.hid (fun w => wof_yes f mn (day + 146097) w hr (by omega) (by omega))
  have hwy := wkY_bd f mn day hr.2.2.2 hr.2.2.1 (by omega) (by omega)
  have hyr := yr_bd day (by omega) (by omega)
  have hwy2 : -1000 ≤ wkY f mn day ∧ wkY f mn day ≤ 100000 := by omega
  rw [wkY_400 f mn day (by omega) (by omega), beg_400, wkd_400, show day + 146097 - (beg f mn (wkY f mn day) + 146097) = day - beg f mn (wkY f mn day) by omega] at CO2
  have CV := Lib.hid (fun w => wvalid_any f mn w)
  rw [decide_eq_true hr] at CV
  clear hr hwy hyr
  generalize (day - beg f mn (wkY f mn day)) / 7 + 1 = wkn at CO1 CO2
  generalize wkY f mn day = wy at *
  obtain ⟨hwy3, hwy4⟩ := hwy2
  obtain ⟨e1, e2, e3⟩ := dt_400 day (by omega) (by omega)
  have hd := date_of day (by omega) (by omega)
  obtain ⟨y1, y2, m1, m2, d1, d2, hcnt⟩ := hd
  have CA := Lib.hid (fun w => date_any day w (by omega) (by omega))
  have CB := Lib.hid (fun w => date_any (day + 146097) w (by omega) (by omega))
  have CW := Lib.hid (fun w => cweekday_any day w (by omega) (by omega))
  have CX := Lib.hid (fun w => cweekday_any (day + 146097) w (by omega) (by omega))
  rw [e1, e2, e3] at CB
  rw [wkd_400] at CX
  have hyb := yr_bd day (by omega) (by omega)
  have hy9 : yr day ≤ 9599 := by
    rcases Int.lt_or_le (yr day) 9600 with h | h
    · omega
    · have : ny 9600 = 2786800 := by decide
      have hm : ny 9600 ≤ ny (yr day) := by unfold ny; omega
      omega
  have CYA := Lib.hid (fun w => yearday_any (yr day) (mo day) (dm day) w y1 y2 m1 m2 d1 d2)
  have CYB := Lib.hid (fun w => yearday_any (yr day + 400) (mo day) (dm day) w (by omega) (by omega) m1 m2 d1 (by rw [mlen_400]; exact d2))
  rw [cnt_400, ny_400, show cnt (yr day) (mo day) (dm day) + 146097 - (ny (yr day) + 146097) + 1 = cnt (yr day) (mo day) (dm day) - ny (yr day) + 1 by omega] at CYB
  have CMA := Lib.hid (fun w => addmonths_any (yr day) (mo day) (dm day) n w y1 y2 m1 m2 d1 d2 h3 h4)
  have CMB := Lib.hid (fun w => addmonths_any (yr day + 400) (mo day) (dm day) n w (by omega) (by omega) m1 m2 d1 (by rw [mlen_400]; exact d2) h3 h4)
  have COA := Lib.hid (fun w => ordinal_any day w (by omega) (by omega))
  have COB := Lib.hid (fun w => ordinal_any (day + 146097) w (by omega) (by omega))
  have hc12 := cnt_in (yr day) (mo day) m1 m2
  have hcd : cnt (yr day) (mo day) (dm day) = day := by
    have : cnt (yr day) (mo day) (dm day) = cnt (yr day) (mo day) 1 + (dm day - 1) := by unfold cnt cnt0; split <;> omega
    omega
  rw [e1, ny_400, show day + 146097 - (ny (yr day) + 146097) + 1 = day - ny (yr day) + 1 by omega] at COB
  rw [hcd] at CYA CYB
  have hwb := wkd_bd day
  generalize wkd day = wv at *
  obtain ⟨Y, hY⟩ : ∃ Y, Y = (12 * yr day + mo day - 1 + n) / 12 := ⟨_, rfl⟩
  obtain ⟨Mo, hMo⟩ : ∃ Mo, Mo = (12 * yr day + mo day - 1 + n) % 12 + 1 := ⟨_, rfl⟩
  have eY : (12 * (yr day + 400) + mo day - 1 + n) / 12 = Y + 400 := by rw [hY]; omega
  have eM : (12 * (yr day + 400) + mo day - 1 + n) % 12 + 1 = Mo := by rw [hMo]; omega
  rw [eY, eM, mlen_400] at CMB
  rw [← hY, ← hMo] at CMA
  obtain ⟨D, hD⟩ : ∃ D, D = (if mlen Y Mo < dm day then mlen Y Mo else dm day) := ⟨_, rfl⟩
  rw [← hD] at CMA CMB
  obtain ⟨yv, hyv⟩ : ∃ yv, yv = day - ny (yr day) + 1 := ⟨_, rfl⟩
  rw [← hyv] at CYA CYB COA COB
  have z1 : (yv == 0) = false := by simp; omega
  have z2 : (wv == 0) = false := by simp; omega
  have hYb : -100000 ≤ Y ∧ Y ≤ 100000 := by omega
  obtain ⟨hYb1, hYb2⟩ := hYb
  clear e1 e2 e3 hcnt hyb hc12 hcd hwb hY hMo eY eM hD hyv m1 m2 d1 d2
  generalize yr day = y at *
  generalize mo day = m at *
  generalize dm day = d at *
  go_enter Tryz.func6, Tryz.ntmps6
  go_wp2_with fail
  refine (CA.out _).mono ?_
  rintro e w1 ⟨rfl, hb1⟩; obtain ⟨x, rfl⟩ := hb1.toExt; clear hb1
  go_wp2_with fail
  refine (CB.out _).mono ?_
  rintro e w1 ⟨rfl, hb1⟩; obtain ⟨x2, rfl⟩ := hb1.toExt; clear hb1
  go_wp2_with refine wp_region_calm (by kernel_rfl) (by kernel_rfl) ?_
  repeat (go_big_quiet_step (first | (with_reducible exact Calls.calm_of_drew (CW.out _)) | (with_reducible exact Calls.calm_of_drew (CX.out _)) | (with_reducible exact Calls.calm_of (CYA.out _)) | (with_reducible exact Calls.calm_of (CYB.out _))))
  refine wpQuiet_nil ?_
  rintro _ ⟨xx, rfl⟩
  go_wp2_with fail
  refine (CO1.out _).mono ?_
  rintro e w1 ⟨rfl, hb1⟩; obtain ⟨x3, rfl⟩ := hb1.toExt; clear hb1
  go_wp2_with fail
  refine (CO2.out _).mono ?_
  rintro e w1 ⟨rfl, hb1⟩; obtain ⟨x4, rfl⟩ := hb1.toExt; clear hb1
  go_wp2_with fail
  refine (CV.out _).mono ?_
  rintro e w1 ⟨rfl, hb1⟩; obtain ⟨x5, rfl⟩ := hb1.toExt; clear hb1
  go_wp2_with fail
  refine (COA.out _).mono ?_
  rintro e w1 ⟨rfl, hb1⟩; obtain ⟨x6, rfl⟩ := hb1.toExt; clear hb1
  go_wp2_with fail
  refine (COB.out _).mono ?_
  rintro e w1 ⟨rfl, hb1⟩; obtain ⟨x7, rfl⟩ := hb1.toExt; clear hb1
  go_wp2_with fail
  by_cases q1 : 1 ≤ Y ∧ Y ≤ 9999
  · simp only [if_pos q1] at CMA
    by_cases q2 : 1 ≤ Y + 400 ∧ Y + 400 ≤ 9999
    · simp only [if_pos q2] at CMB
      have g1 : ¬ 9999 < Y + 400 := by omega
      clear q1 q2
      refine (CMA.out _).mono ?_
      rintro e w1 ⟨rfl, hb1⟩; obtain ⟨x8, rfl⟩ := hb1.toExt; clear hb1
      go_wp2_with fail
      refine (CMB.out _).mono ?_
      rintro e w1 ⟨rfl, hb1⟩; obtain ⟨x9, rfl⟩ := hb1.toExt; clear hb1
      go_wp2
      go_ret
      exact ⟨rfl, (by repeat (first | (with_reducible exact Below.refl _ _) | (with_reducible assumption) | (with_reducible refine RowKit.Below.ext ?_ ?_ _) | (with_reducible refine Below.alloc ?_ ?_ _) | (with_reducible refine Below.drew ?_) | (with_reducible refine RowKit.Below.drawnN ?_ _) | (with_reducible refine Below.setCell ?_ ?_ _) | (exact (by first | (simp; done) | (simp; omega) | omega))))⟩
    · simp only [if_neg q2] at CMB
      have g1 : 9999 < Y + 400 := by omega
      clear q1 q2
      refine (CMA.out _).mono ?_
      rintro e w1 ⟨rfl, hb1⟩; obtain ⟨x8, rfl⟩ := hb1.toExt; clear hb1
      go_wp2_with fail
      refine (CMB.out _).mono ?_
      rintro e w1 ⟨rfl, hb1⟩; obtain ⟨x9, rfl⟩ := hb1.toExt; clear hb1
      go_wp2
      go_ret
      exact ⟨rfl, (by repeat (first | (with_reducible exact Below.refl _ _) | (with_reducible assumption) | (with_reducible refine RowKit.Below.ext ?_ ?_ _) | (with_reducible refine Below.alloc ?_ ?_ _) | (with_reducible refine Below.drew ?_) | (with_reducible refine RowKit.Below.drawnN ?_ _) | (with_reducible refine Below.setCell ?_ ?_ _) | (exact (by first | (simp; done) | (simp; omega) | omega))))⟩
  · simp only [if_neg q1] at CMA
    by_cases q2 : 1 ≤ Y + 400 ∧ Y + 400 ≤ 9999
    · simp only [if_pos q2] at CMB
      clear q1 q2
      refine (CMA.out _).mono ?_
      rintro e w1 ⟨rfl, hb1⟩; obtain ⟨x8, rfl⟩ := hb1.toExt; clear hb1
      go_wp2_with fail
      refine (CMB.out _).mono ?_
      rintro e w1 ⟨rfl, hb1⟩; obtain ⟨x9, rfl⟩ := hb1.toExt; clear hb1
      go_wp2
      go_ret
      exact ⟨rfl, (by repeat (first | (with_reducible exact Below.refl _ _) | (with_reducible assumption) | (with_reducible refine RowKit.Below.ext ?_ ?_ _) | (with_reducible refine Below.alloc ?_ ?_ _) | (with_reducible refine Below.drew ?_) | (with_reducible refine RowKit.Below.drawnN ?_ _) | (with_reducible refine Below.setCell ?_ ?_ _) | (exact (by first | (simp; done) | (simp; omega) | omega))))⟩
    · simp only [if_neg q2] at CMB
      clear q1 q2
      refine (CMA.out _).mono ?_
      rintro e w1 ⟨rfl, hb1⟩; obtain ⟨x8, rfl⟩ := hb1.toExt; clear hb1
      go_wp2_with fail
      refine (CMB.out _).mono ?_
      rintro e w1 ⟨rfl, hb1⟩; obtain ⟨x9, rfl⟩ := hb1.toExt; clear hb1
      go_wp2
      go_ret
      exact ⟨rfl, (by repeat (first | (with_reducible exact Below.refl _ _) | (with_reducible assumption) | (with_reducible refine RowKit.Below.ext ?_ ?_ _) | (with_reducible refine Below.alloc ?_ ?_ _) | (with_reducible refine Below.drew ?_) | (with_reducible refine RowKit.Below.drawnN ?_ _) | (with_reducible refine Below.setCell ?_ ?_ _) | (exact (by first | (simp; done) | (simp; omega) | omega))))⟩
theorem cycleday_any (day f mn n : Int) (w : World) (h1 : -718362 ≤ day) (h2 : day < 2786000) (h3 : -100000 ≤ n) (h4 : n ≤ 100000) :
    Calls Tryz.prog 6 #[.int .i64 day, .agg #[.int .i64 f, .int .i64 mn], .int .i64 n] w fun e w' => e = .returned (.bool true) ∧ Below w.heap.size w w' := by
  by_cases hr : 1 ≤ f ∧ f ≤ 7 ∧ 1 ≤ mn ∧ mn ≤ 7
  · exact cycleday_yes day f mn n w h1 h2 h3 h4 hr
  · exact cycleday_no day f mn n w h1 h2 h3 h4 hr
end Go.Proofs.YthilkphnjffnhaaGreat
