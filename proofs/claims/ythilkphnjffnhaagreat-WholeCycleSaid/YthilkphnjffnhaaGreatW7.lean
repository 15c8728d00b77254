/- The walk of Matches. -/
import Derived.Test.YthilkphnjffnhaaGreatQ3
namespace Go.Proofs.YthilkphnjffnhaaGreat
open Go.RowKit
set_option linter.unusedVariables false
set_option linter.unusedSimpArgs false
noncomputable def earlyP (r : Rc) (t l : Int) : Bool := decide (l < t) || (decide (r.un ≠ 0 ∧ r.un < l) || decide ((numP r l - numP r t).tmod r.iv ≠ 0))
noncomputable def onP (r : Rc) (t l : Int) : Bool := (timesP r.f r.ho.l r.mi.l r.se.l (t % 86400)).any (fun y => l % 86400 == y) && passP r (diP (t / 86400)) (l / 86400)
noncomputable def matchP (r : Rc) (t l : Int) : Bool :=
  if earlyP r t l then false else if onP r t l then (if r.po.l.length = 0 then true else cntP r.po.l (placeP r t l).1 (placeP r t l).2) else false

theorem numP_bd (r : Rc) (l : Int) (h1 : 1 ≤ r.f) (h2 : r.f ≤ 5) (h3 : 1 ≤ r.ws) (h4 : r.ws ≤ 7) (h5 : -62121600000 ≤ l) (h6 : l < 253402300800) : -1000000000 ≤ numP r l ∧ numP r l ≤ 1000000000 := by
  have q1 : -719000 ≤ l / 86400 := by omega
  have q2 : l / 86400 < 2932897 := by omega
  have hy := yr_bd (l / 86400) (by omega) q2
  have hd := date_of (l / 86400) (by omega) q2
  obtain ⟨y1, y2, m1, m2, _, _, _⟩ := hd
  have hb := wkS_bd (l / 86400) r.ws
  have hw := wyr_bd (l / 86400) r.ws q1 q2
  unfold numP
  repeat' split
  all_goals omega

set_option maxRecDepth 100000 in
set_option maxHeartbeats 8000000 in
theorem matches_early (r : Rc) (t l : Int) (w : World) (hr : r.In w) (hv : validB r = true) (ht : inP t) (hl : inP l) (he : earlyP r t l = true) :
    Calls Tryz.prog 10 #[r.val, .int .i64 t, .int .i64 l] w fun e w' => e = .returned (.tuple #[.bool false, .int .i64 0]) ∧ Below w.heap.size w w' := by
  have hk := Rc.Ok.of hv
  have CG := Lib.hid (fun w (h : r.In w) => given_yes r t w h hv ht.loc)
  have CL := Lib.hid (fun w => local_yes l w hl.loc)
  obtain ⟨t1, t2⟩ := ht
  obtain ⟨l1, l2⟩ := hl
  have n1 := numP_bd r l hk.f1 hk.f5 hk.s1 hk.s7 l1 l2
  have n2 := numP_bd r t hk.f1 hk.f5 hk.s1 hk.s7 t1 t2
  have C1 := Lib.hid (fun w => number_any r l w hk.f1 hk.f5 hk.s1 hk.s7 l1 l2)
  have C2 := Lib.hid (fun w => number_any r t w hk.f1 hk.f5 hk.s1 hk.s7 t1 t2)
  have i1 := hk.i1
  have i2 := hk.i2
  have HR := Lib.hid hr
  unfold earlyP at he
  clear hr hv hk
  generalize numP r l = N at *
  generalize numP r t = M at *
  by_cases a1 : l < t
  · have d1 : decide (l < t) = true := decide_eq_true a1
    clear he n1 n2 a1
    go_enter Tryz.func10, Tryz.ntmps10
    go_wp2_with fail
    refine (CG.out _ (HR.out.below (by repeat (first | (with_reducible exact Below.refl _ _) | (with_reducible assumption) | (with_reducible refine RowKit.Below.ext ?_ ?_ _) | (with_reducible refine Below.alloc ?_ ?_ _) | (with_reducible refine Below.drew ?_) | (with_reducible refine RowKit.Below.drawnN ?_ _) | (with_reducible refine Below.setCell ?_ ?_ _) | (exact (by first | (simp; done) | (simp; omega) | omega)))))).mono ?_
    rintro e w1 ⟨rfl, hb1⟩; obtain ⟨x, rfl⟩ := hb1.toExt; clear hb1
    go_wp2_with fail
    refine (CL.out _).mono ?_
    rintro e w1 ⟨rfl, rfl⟩
    go_wp2_with fail
    refine (floor_any l 86400 _ (by omega) (by omega) (by omega) (by omega)).mono ?_
    rintro e w1 ⟨rfl, nd, rfl⟩
    go_wp2_with refine wp_region_calm (by kernel_rfl) (by kernel_rfl) ?_
    repeat (go_big_quiet_step (first | (with_reducible exact Calls.calm_of (C1.out _)) | (with_reducible exact Calls.calm_of (C2.out _))))
    refine wpQuiet_nil ?_
    rintro _ ⟨xx, rfl⟩
    go_wp2
    go_ret2
    exact ⟨rfl, (by repeat (first | (with_reducible exact Below.refl _ _) | (with_reducible assumption) | (with_reducible refine RowKit.Below.ext ?_ ?_ _) | (with_reducible refine Below.alloc ?_ ?_ _) | (with_reducible refine Below.drew ?_) | (with_reducible refine RowKit.Below.drawnN ?_ _) | (with_reducible refine Below.setCell ?_ ?_ _) | (exact (by first | (simp; done) | (simp; omega) | omega))))⟩
  have d1 : decide (l < t) = false := decide_eq_false a1
  have he2 : (decide (r.un ≠ 0 ∧ r.un < l) || decide ((N - M).tmod r.iv ≠ 0)) = true := by rw [decide_eq_false a1, Bool.false_or] at he; exact he
  clear he
  by_cases u0 : r.un = 0
  · have u1 : (r.un != 0) = false := by simp [u0]
    have h3 : (N - M).tmod r.iv ≠ 0 := by
      rw [decide_eq_false (by omega), Bool.false_or] at he2; exact of_decide_eq_true he2
    have h4 : ((N - M).tmod r.iv != 0) = true := by simpa using h3
    have i0 : r.iv ≠ 0 := by omega
    clear he2 u0 h3
    go_enter Tryz.func10, Tryz.ntmps10
    go_wp2_with fail
    refine (CG.out _ (HR.out.below (by repeat (first | (with_reducible exact Below.refl _ _) | (with_reducible assumption) | (with_reducible refine RowKit.Below.ext ?_ ?_ _) | (with_reducible refine Below.alloc ?_ ?_ _) | (with_reducible refine Below.drew ?_) | (with_reducible refine RowKit.Below.drawnN ?_ _) | (with_reducible refine Below.setCell ?_ ?_ _) | (exact (by first | (simp; done) | (simp; omega) | omega)))))).mono ?_
    rintro e w1 ⟨rfl, hb1⟩; obtain ⟨x, rfl⟩ := hb1.toExt; clear hb1
    go_wp2_with fail
    refine (CL.out _).mono ?_
    rintro e w1 ⟨rfl, rfl⟩
    go_wp2_with fail
    refine (floor_any l 86400 _ (by omega) (by omega) (by omega) (by omega)).mono ?_
    rintro e w1 ⟨rfl, nd, rfl⟩
    go_wp2_with refine wp_region_calm (by kernel_rfl) (by kernel_rfl) ?_
    repeat (go_big_quiet_step (first | (with_reducible exact Calls.calm_of (C1.out _)) | (with_reducible exact Calls.calm_of (C2.out _))))
    refine wpQuiet_nil ?_
    rintro _ ⟨xx, rfl⟩
    go_wp2
    go_ret2
    exact ⟨rfl, (by repeat (first | (with_reducible exact Below.refl _ _) | (with_reducible assumption) | (with_reducible refine RowKit.Below.ext ?_ ?_ _) | (with_reducible refine Below.alloc ?_ ?_ _) | (with_reducible refine Below.drew ?_) | (with_reducible refine RowKit.Below.drawnN ?_ _) | (with_reducible refine Below.setCell ?_ ?_ _) | (exact (by first | (simp; done) | (simp; omega) | omega))))⟩
  · have u1 : (r.un != 0) = true := by simp [u0]
    by_cases u2 : r.un < l
    · have d2 : decide (r.un < l) = true := decide_eq_true u2
      clear he2 u0 n1 n2 u2
      go_enter Tryz.func10, Tryz.ntmps10
      go_wp2_with fail
      refine (CG.out _ (HR.out.below (by repeat (first | (with_reducible exact Below.refl _ _) | (with_reducible assumption) | (with_reducible refine RowKit.Below.ext ?_ ?_ _) | (with_reducible refine Below.alloc ?_ ?_ _) | (with_reducible refine Below.drew ?_) | (with_reducible refine RowKit.Below.drawnN ?_ _) | (with_reducible refine Below.setCell ?_ ?_ _) | (exact (by first | (simp; done) | (simp; omega) | omega)))))).mono ?_
      rintro e w1 ⟨rfl, hb1⟩; obtain ⟨x, rfl⟩ := hb1.toExt; clear hb1
      go_wp2_with fail
      refine (CL.out _).mono ?_
      rintro e w1 ⟨rfl, rfl⟩
      go_wp2_with fail
      refine (floor_any l 86400 _ (by omega) (by omega) (by omega) (by omega)).mono ?_
      rintro e w1 ⟨rfl, nd, rfl⟩
      go_wp2_with refine wp_region_calm (by kernel_rfl) (by kernel_rfl) ?_
      repeat (go_big_quiet_step (first | (with_reducible exact Calls.calm_of (C1.out _)) | (with_reducible exact Calls.calm_of (C2.out _))))
      refine wpQuiet_nil ?_
      rintro _ ⟨xx, rfl⟩
      go_wp2
      go_ret2
      exact ⟨rfl, (by repeat (first | (with_reducible exact Below.refl _ _) | (with_reducible assumption) | (with_reducible refine RowKit.Below.ext ?_ ?_ _) | (with_reducible refine Below.alloc ?_ ?_ _) | (with_reducible refine Below.drew ?_) | (with_reducible refine RowKit.Below.drawnN ?_ _) | (with_reducible refine Below.setCell ?_ ?_ _) | (exact (by first | (simp; done) | (simp; omega) | omega))))⟩
    · have h3 : (N - M).tmod r.iv ≠ 0 := by
        rw [decide_eq_false (by omega), Bool.false_or] at he2; exact of_decide_eq_true he2
      have h4 : ((N - M).tmod r.iv != 0) = true := by simpa using h3
      have i0 : r.iv ≠ 0 := by omega
      have d2 : decide (r.un < l) = false := decide_eq_false u2
      clear he2 u0 h3 u2
      go_enter Tryz.func10, Tryz.ntmps10
      go_wp2_with fail
      refine (CG.out _ (HR.out.below (by repeat (first | (with_reducible exact Below.refl _ _) | (with_reducible assumption) | (with_reducible refine RowKit.Below.ext ?_ ?_ _) | (with_reducible refine Below.alloc ?_ ?_ _) | (with_reducible refine Below.drew ?_) | (with_reducible refine RowKit.Below.drawnN ?_ _) | (with_reducible refine Below.setCell ?_ ?_ _) | (exact (by first | (simp; done) | (simp; omega) | omega)))))).mono ?_
      rintro e w1 ⟨rfl, hb1⟩; obtain ⟨x, rfl⟩ := hb1.toExt; clear hb1
      go_wp2_with fail
      refine (CL.out _).mono ?_
      rintro e w1 ⟨rfl, rfl⟩
      go_wp2_with fail
      refine (floor_any l 86400 _ (by omega) (by omega) (by omega) (by omega)).mono ?_
      rintro e w1 ⟨rfl, nd, rfl⟩
      go_wp2_with refine wp_region_calm (by kernel_rfl) (by kernel_rfl) ?_
      repeat (go_big_quiet_step (first | (with_reducible exact Calls.calm_of (C1.out _)) | (with_reducible exact Calls.calm_of (C2.out _))))
      refine wpQuiet_nil ?_
      rintro _ ⟨xx, rfl⟩
      go_wp2
      go_ret2
      exact ⟨rfl, (by repeat (first | (with_reducible exact Below.refl _ _) | (with_reducible assumption) | (with_reducible refine RowKit.Below.ext ?_ ?_ _) | (with_reducible refine Below.alloc ?_ ?_ _) | (with_reducible refine Below.drew ?_) | (with_reducible refine RowKit.Below.drawnN ?_ _) | (with_reducible refine Below.setCell ?_ ?_ _) | (exact (by first | (simp; done) | (simp; omega) | omega))))⟩

theorem placeP_bd (r : Rc) (t l : Int) (hk : r.Ok) (l1 : -62121600000 ≤ l) (l2 : l < 253402300800) : (0 ≤ (placeP r t l).1 ∧ (placeP r t l).1 ≤ 180000000) ∧ (0 ≤ (placeP r t l).2 ∧ (placeP r t l).2 ≤ 180000000) := by
  have hd := dFrom_bd r (l / 86400) (by omega) (by omega) hk.s1 hk.s7
  have h := placeD_bd r (diP (t / 86400)) (timesP r.f r.ho.l r.mi.l r.se.l (t % 86400)) l (upL (max (dFrom r (l / 86400)) (-719162)) (min (dTo r (l / 86400)) 2932897)) 216000 (timesP_len _ hk.lh hk.lm hk.ls)
  have hL : (upL (max (dFrom r (l / 86400)) (-719162)) (min (dTo r (l / 86400)) 2932897)).length ≤ 801 := by rw [upL_length]; omega
  unfold placeP
  omega
end Go.Proofs.YthilkphnjffnhaaGreat
