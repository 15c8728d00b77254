/- The walks of the filters of a day. -/
import Derived.Test.YthilkphnjffnhaaGreatJG
namespace Go.Proofs.YthilkphnjffnhaaGreat
open Go.RowKit
set_option linter.unusedVariables false
set_option linter.unusedSimpArgs false
/-- the bounds of a day of the range -/
structure DI.Bd (x : DI) : Prop where
  m1 : 1 ≤ x.m
  m2 : x.m ≤ 12
  a1 : 1 ≤ x.inY
  a2 : x.inY ≤ x.ofY
  b1 : 365 ≤ x.ofY
  b2 : x.ofY ≤ 366
  c1 : 1 ≤ x.inM
  c2 : x.inM ≤ x.ofM
  d1 : 28 ≤ x.ofM
  d2 : x.ofM ≤ 31
  e1 : -719000 ≤ x.day
  e2 : x.day < 2932897
theorem diP_ok (d : Int) (h1 : -719000 ≤ d) (h2 : d < 2932897) : (diP d).Bd := by
  obtain ⟨⟨_, _⟩, ⟨a1, a2⟩, ⟨b1, b2⟩, ⟨c1, c2⟩, ⟨d1, d2⟩, ⟨e1, e2⟩⟩ := diP_bd d (by omega) h2
  exact ⟨a1, a2, b1, b2, c1, c2, d1, d2, e1, e2, h1, h2⟩

theorem ncase (n : Nat) : n = 0 ∧ ((n : Int) == 0) = true ∨ 0 < n ∧ ((n : Int) == 0) = false := by
  rcases Nat.eq_zero_or_pos n with h | h
  · exact .inl ⟨h, by simp [h]⟩
  · exact .inr ⟨h, by simp; omega⟩

set_option maxHeartbeats 4000000 in
theorem f1_any (r : Rc) (x s : DI) (w : World) (hr : r.In w) :
    Calls Tryz.prog 76 #[r.val, x.v, s.v] w fun e w' => e = .returned (.bool (f1P r x)) ∧ Below w.heap.size w w' := by
  have key : f1P r x = (decide (r.mo.l.length = 0) || r.mo.l.any (fun y => x.m == y)) := rfl
  have C := Lib.hid (fun w (h : r.mo.In w) => contains_any x.m r.mo w h)
  have HR := Lib.hid hr
  rw [key]
  clear hr key
  generalize (r.mo.l.any fun y => x.m == y) = b at C ⊢
  obtain ⟨xy, xm, xd, xday, xinY, xofY, xinM, xofM⟩ := x
  obtain ⟨sy, sm, sd, sday, sinY, sofY, sinM, sofM⟩ := s
  dsimp only [DI.v] at C ⊢
  rcases ncase r.mo.l.length with ⟨h1, h2⟩ | ⟨h1, h2⟩
  · rw [decide_eq_true h1]
    rw [Bool.true_or]
    clear h1
    go_enter Tryz.func76, Tryz.ntmps76
    go_wp2
    go_ret
    exact ⟨rfl, (by repeat (first | (with_reducible exact Below.refl _ _) | (with_reducible assumption) | (with_reducible refine RowKit.Below.ext ?_ ?_ _) | (with_reducible refine Below.alloc ?_ ?_ _) | (with_reducible refine Below.drew ?_) | (with_reducible refine RowKit.Below.drawnN ?_ _) | (with_reducible refine Below.setCell ?_ ?_ _) | (exact (by first | (simp; done) | (simp; omega) | omega))))⟩
  · rw [decide_eq_false (by omega), Bool.false_or]
    clear h1
    go_enter Tryz.func76, Tryz.ntmps76
    go_wp2_with fail
    refine (C.out _ (HR.out.mo.below (by repeat (first | (with_reducible exact Below.refl _ _) | (with_reducible assumption) | (with_reducible refine RowKit.Below.ext ?_ ?_ _) | (with_reducible refine Below.alloc ?_ ?_ _) | (with_reducible refine Below.drew ?_) | (with_reducible refine RowKit.Below.drawnN ?_ _) | (with_reducible refine Below.setCell ?_ ?_ _) | (exact (by first | (simp; done) | (simp; omega) | omega)))))).mono ?_
    rintro e w1 ⟨rfl, rfl⟩
    go_wp2
    go_ret
    exact ⟨rfl, (by repeat (first | (with_reducible exact Below.refl _ _) | (with_reducible assumption) | (with_reducible refine RowKit.Below.ext ?_ ?_ _) | (with_reducible refine Below.alloc ?_ ?_ _) | (with_reducible refine Below.drew ?_) | (with_reducible refine RowKit.Below.drawnN ?_ _) | (with_reducible refine Below.setCell ?_ ?_ _) | (exact (by first | (simp; done) | (simp; omega) | omega))))⟩

set_option maxHeartbeats 4000000 in
theorem f2_any (r : Rc) (x s : DI) (w : World) (hr : r.In w) (hx : x.Bd) :
    Calls Tryz.prog 77 #[r.val, x.v, s.v] w fun e w' => e = .returned (.bool (f2P r x)) ∧ Below w.heap.size w w' := by
  have key : f2P r x = cntP r.md.l x.inM x.ofM := rfl
  have C := Lib.hid (fun w (h : r.md.In w) => counted_any r.md x.inM x.ofM w h (by have := hx.c1; omega) (by have := hx.c2; have := hx.d2; omega) (by have := hx.d1; omega) (by have := hx.d2; omega))
  have HR := Lib.hid hr
  rw [key]
  clear hr key hx
  obtain ⟨xy, xm, xd, xday, xinY, xofY, xinM, xofM⟩ := x
  obtain ⟨sy, sm, sd, sday, sinY, sofY, sinM, sofM⟩ := s
  dsimp only [DI.v] at C ⊢
  go_enter Tryz.func77, Tryz.ntmps77
  go_wp2_with fail
  refine (C.out _ (HR.out.md.below (by repeat (first | (with_reducible exact Below.refl _ _) | (with_reducible assumption) | (with_reducible refine RowKit.Below.ext ?_ ?_ _) | (with_reducible refine Below.alloc ?_ ?_ _) | (with_reducible refine Below.drew ?_) | (with_reducible refine RowKit.Below.drawnN ?_ _) | (with_reducible refine Below.setCell ?_ ?_ _) | (exact (by first | (simp; done) | (simp; omega) | omega)))))).mono ?_
  rintro e w1 ⟨rfl, rfl⟩
  go_wp2
  go_ret
  exact ⟨rfl, (by repeat (first | (with_reducible exact Below.refl _ _) | (with_reducible assumption) | (with_reducible refine RowKit.Below.ext ?_ ?_ _) | (with_reducible refine Below.alloc ?_ ?_ _) | (with_reducible refine Below.drew ?_) | (with_reducible refine RowKit.Below.drawnN ?_ _) | (with_reducible refine Below.setCell ?_ ?_ _) | (exact (by first | (simp; done) | (simp; omega) | omega))))⟩

set_option maxHeartbeats 4000000 in
theorem f3_any (r : Rc) (x s : DI) (w : World) (hr : r.In w) (hx : x.Bd) :
    Calls Tryz.prog 78 #[r.val, x.v, s.v] w fun e w' => e = .returned (.bool (f3P r x)) ∧ Below w.heap.size w w' := by
  have key : f3P r x = cntP r.yd.l x.inY x.ofY := rfl
  have C := Lib.hid (fun w (h : r.yd.In w) => counted_any r.yd x.inY x.ofY w h (by have := hx.a1; omega) (by have := hx.a2; have := hx.b2; omega) (by have := hx.b1; omega) (by have := hx.b2; omega))
  have HR := Lib.hid hr
  rw [key]
  clear hr key hx
  obtain ⟨xy, xm, xd, xday, xinY, xofY, xinM, xofM⟩ := x
  obtain ⟨sy, sm, sd, sday, sinY, sofY, sinM, sofM⟩ := s
  dsimp only [DI.v] at C ⊢
  go_enter Tryz.func78, Tryz.ntmps78
  go_wp2_with fail
  refine (C.out _ (HR.out.yd.below (by repeat (first | (with_reducible exact Below.refl _ _) | (with_reducible assumption) | (with_reducible refine RowKit.Below.ext ?_ ?_ _) | (with_reducible refine Below.alloc ?_ ?_ _) | (with_reducible refine Below.drew ?_) | (with_reducible refine RowKit.Below.drawnN ?_ _) | (with_reducible refine Below.setCell ?_ ?_ _) | (exact (by first | (simp; done) | (simp; omega) | omega)))))).mono ?_
  rintro e w1 ⟨rfl, rfl⟩
  go_wp2
  go_ret
  exact ⟨rfl, (by repeat (first | (with_reducible exact Below.refl _ _) | (with_reducible assumption) | (with_reducible refine RowKit.Below.ext ?_ ?_ _) | (with_reducible refine Below.alloc ?_ ?_ _) | (with_reducible refine Below.drew ?_) | (with_reducible refine RowKit.Below.drawnN ?_ _) | (with_reducible refine Below.setCell ?_ ?_ _) | (exact (by first | (simp; done) | (simp; omega) | omega))))⟩

theorem fw_bd (y s : Int) (h3 : 1 ≤ s) (h4 : s ≤ 7) : ny y - 3 ≤ fw y s ∧ fw y s ≤ ny y + 3 := by unfold fw wkS; omega

set_option maxHeartbeats 4000000 in
theorem f4_any (r : Rc) (x s : DI) (w : World) (hr : r.In w) (hx : x.Bd) (hs1 : 1 ≤ r.ws) (hs2 : r.ws ≤ 7) :
    Calls Tryz.prog 79 #[r.val, x.v, s.v] w fun e w' => e = .returned (.bool (f4P r x)) ∧ Below w.heap.size w w' := by
  have key : f4P r x = if r.wk.l.length = 0 then true else cntP r.wk.l ((x.day - fw (wyr x.day r.ws) r.ws) / 7 + 1) ((fw (wyr x.day r.ws + 1) r.ws - fw (wyr x.day r.ws) r.ws) / 7) := rfl
  have e1 := hx.e1
  have e2 := hx.e2
  have hy := wyr_bd x.day r.ws e1 e2
  have hf := wyr_fw x.day r.ws e1 e2 hs1 hs2
  have g1 := fw_bd (wyr x.day r.ws) r.ws hs1 hs2
  have g2 := fw_bd (wyr x.day r.ws + 1) r.ws hs1 hs2
  have g3 : -800000 ≤ ny (wyr x.day r.ws) ∧ ny (wyr x.day r.ws) ≤ 4000000 := by unfold ny; omega
  have g4 : ny (wyr x.day r.ws + 1) - ny (wyr x.day r.ws) ≤ 366 := by unfold ny; omega
  have hb1 : x.day - fw (wyr x.day r.ws) r.ws ≤ 4000000 := by omega
  have hb2 : fw (wyr x.day r.ws + 1) r.ws - fw (wyr x.day r.ws) r.ws ≤ 4000000 := by omega
  have CW := Lib.hid (fun w => weekyear_any x.day r.ws w e1 e2 hs1 hs2)
  have CF := Lib.hid (fun w => firstweek_any (wyr x.day r.ws) r.ws w (by omega) (by omega) hs1 hs2)
  have CF1 := Lib.hid (fun w => firstweek_any (wyr x.day r.ws + 1) r.ws w (by omega) (by omega) hs1 hs2)
  have C := Lib.hid (fun w (h : r.wk.In w) => counted_any r.wk ((x.day - fw (wyr x.day r.ws) r.ws) / 7 + 1) ((fw (wyr x.day r.ws + 1) r.ws - fw (wyr x.day r.ws) r.ws) / 7) w h (by omega) (by omega) (by omega) (by omega))
  have HR := Lib.hid hr
  rw [key]
  clear hr key hx g1 g2 
  generalize fw (wyr x.day r.ws + 1) r.ws = n1 at *
  generalize fw (wyr x.day r.ws) r.ws = n0 at *
  generalize wyr x.day r.ws = Y at *
  obtain ⟨hf1, hf2⟩ := hf
  obtain ⟨xy, xm, xd, xday, xinY, xofY, xinM, xofM⟩ := x
  obtain ⟨sy, sm, sd, sday, sinY, sofY, sinM, sofM⟩ := s
  dsimp only [DI.v] at *
  rcases ncase r.wk.l.length with ⟨h1, h2⟩ | ⟨h1, h2⟩
  · rw [if_pos h1]
    clear h1
    go_enter Tryz.func79, Tryz.ntmps79
    go_wp2
    go_ret
    exact ⟨rfl, (by repeat (first | (with_reducible exact Below.refl _ _) | (with_reducible assumption) | (with_reducible refine RowKit.Below.ext ?_ ?_ _) | (with_reducible refine Below.alloc ?_ ?_ _) | (with_reducible refine Below.drew ?_) | (with_reducible refine RowKit.Below.drawnN ?_ _) | (with_reducible refine Below.setCell ?_ ?_ _) | (exact (by first | (simp; done) | (simp; omega) | omega))))⟩
  · rw [if_neg (by omega)]
    clear h1
    go_enter Tryz.func79, Tryz.ntmps79
    go_wp2_with fail
    refine (CW.out _).mono ?_
    rintro e w1 ⟨rfl, hb1⟩; obtain ⟨x, rfl⟩ := hb1.toExt; clear hb1
    go_wp2_with fail
    refine (CF.out _).mono ?_
    rintro e w2 ⟨rfl, n2, rfl⟩
    go_wp2_with refine wp_region_calm (by kernel_rfl) (by kernel_rfl) ?_
    repeat (go_big_quiet_step (first | (with_reducible exact Calls.calm_of_drew (CF1.out _)) | (with_reducible exact Calls.calm_of_same ((C.out _ (HR.out.wk.below (by repeat (first | (with_reducible exact Below.refl _ _) | (with_reducible assumption) | (with_reducible refine RowKit.Below.ext ?_ ?_ _) | (with_reducible refine Below.alloc ?_ ?_ _) | (with_reducible refine Below.drew ?_) | (with_reducible refine RowKit.Below.drawnN ?_ _) | (with_reducible refine Below.setCell ?_ ?_ _) | (exact (by first | (simp; done) | (simp; omega) | omega)))))).mono fun _ _ h => h))))
    refine wpQuiet_nil ?_
    rintro _ ⟨xx, rfl⟩
    go_wp2
    go_ret
    exact ⟨rfl, (by repeat (first | (with_reducible exact Below.refl _ _) | (with_reducible assumption) | (with_reducible refine RowKit.Below.ext ?_ ?_ _) | (with_reducible refine Below.alloc ?_ ?_ _) | (with_reducible refine Below.drew ?_) | (with_reducible refine RowKit.Below.drawnN ?_ _) | (with_reducible refine Below.setCell ?_ ?_ _) | (exact (by first | (simp; done) | (simp; omega) | omega))))⟩

set_option maxHeartbeats 4000000 in
theorem f5_any (r : Rc) (x s : DI) (w : World) (hr : r.In w) (hx : x.Bd) :
    Calls Tryz.prog 81 #[r.val, x.v, s.v] w fun e w' => e = .returned (.bool (f5P r x)) ∧ Below w.heap.size w w' := by
  have key : f5P r x = if r.f = 2 ∨ 0 < r.mo.l.length then nthP r.dy.l (wkd x.day) x.inM x.ofM else nthP r.dy.l (wkd x.day) x.inY x.ofY := rfl
  have e1 := hx.e1
  have e2 := hx.e2
  have CW := Lib.hid (fun w => rweekday_any x.day w (by omega) (by omega))
  have CM := Lib.hid (fun w (h : r.dy.In w) => nth_any r.dy (wkd x.day) x.inM x.ofM w h hx.c1 hx.c2 (by have := hx.d2; omega))
  have CY := Lib.hid (fun w (h : r.dy.In w) => nth_any r.dy (wkd x.day) x.inY x.ofY w h hx.a1 hx.a2 (by have := hx.b2; omega))
  have HR := Lib.hid hr
  rw [key]
  clear hr key hx e1 e2
  generalize wkd x.day = wd at *
  obtain ⟨xy, xm, xd, xday, xinY, xofY, xinM, xofM⟩ := x
  obtain ⟨sy, sm, sd, sday, sinY, sofY, sinM, sofM⟩ := s
  dsimp only [DI.v] at *
  by_cases h1 : r.f = 2
  · rw [if_pos (.inl h1)]
    have h2 : (r.f == 2) = true := by simp [h1]
    clear h1
    have C := CM
    clear CY CM
    go_enter Tryz.func81, Tryz.ntmps81
    go_wp2_with refine wp_region_calm (by kernel_rfl) (by kernel_rfl) ?_
    repeat (go_big_quiet_step (first | (with_reducible exact Calls.calm_of_drew (CW.out _)) | (with_reducible exact Calls.calm_of (C.out _ (HR.out.dy.below (by repeat (first | (with_reducible exact Below.refl _ _) | (with_reducible assumption) | (with_reducible refine RowKit.Below.ext ?_ ?_ _) | (with_reducible refine Below.alloc ?_ ?_ _) | (with_reducible refine Below.drew ?_) | (with_reducible refine RowKit.Below.drawnN ?_ _) | (with_reducible refine Below.setCell ?_ ?_ _) | (exact (by first | (simp; done) | (simp; omega) | omega)))))))))
    refine wpQuiet_nil ?_
    rintro _ ⟨xx, rfl⟩
    go_wp2
    go_ret
    exact ⟨rfl, (by repeat (first | (with_reducible exact Below.refl _ _) | (with_reducible assumption) | (with_reducible refine RowKit.Below.ext ?_ ?_ _) | (with_reducible refine Below.alloc ?_ ?_ _) | (with_reducible refine Below.drew ?_) | (with_reducible refine RowKit.Below.drawnN ?_ _) | (with_reducible refine Below.setCell ?_ ?_ _) | (exact (by first | (simp; done) | (simp; omega) | omega))))⟩
  · have h2 : (r.f == 2) = false := by simp [h1]
    by_cases h3 : 0 < r.mo.l.length
    · rw [if_pos (.inr h3)]
      clear h1
      have C := CM
      clear CY CM
      go_enter Tryz.func81, Tryz.ntmps81
      go_wp2_with refine wp_region_calm (by kernel_rfl) (by kernel_rfl) ?_
      repeat (go_big_quiet_step (first | (with_reducible exact Calls.calm_of_drew (CW.out _)) | (with_reducible exact Calls.calm_of (C.out _ (HR.out.dy.below (by repeat (first | (with_reducible exact Below.refl _ _) | (with_reducible assumption) | (with_reducible refine RowKit.Below.ext ?_ ?_ _) | (with_reducible refine Below.alloc ?_ ?_ _) | (with_reducible refine Below.drew ?_) | (with_reducible refine RowKit.Below.drawnN ?_ _) | (with_reducible refine Below.setCell ?_ ?_ _) | (exact (by first | (simp; done) | (simp; omega) | omega)))))))))
      refine wpQuiet_nil ?_
      rintro _ ⟨xx, rfl⟩
      go_wp2
      go_ret
      exact ⟨rfl, (by repeat (first | (with_reducible exact Below.refl _ _) | (with_reducible assumption) | (with_reducible refine RowKit.Below.ext ?_ ?_ _) | (with_reducible refine Below.alloc ?_ ?_ _) | (with_reducible refine Below.drew ?_) | (with_reducible refine RowKit.Below.drawnN ?_ _) | (with_reducible refine Below.setCell ?_ ?_ _) | (exact (by first | (simp; done) | (simp; omega) | omega))))⟩
    · rw [if_neg (by omega)]
      clear h1
      have C := CY
      clear CY CM
      go_enter Tryz.func81, Tryz.ntmps81
      go_wp2_with refine wp_region_calm (by kernel_rfl) (by kernel_rfl) ?_
      repeat (go_big_quiet_step (first | (with_reducible exact Calls.calm_of_drew (CW.out _)) | (with_reducible exact Calls.calm_of (C.out _ (HR.out.dy.below (by repeat (first | (with_reducible exact Below.refl _ _) | (with_reducible assumption) | (with_reducible refine RowKit.Below.ext ?_ ?_ _) | (with_reducible refine Below.alloc ?_ ?_ _) | (with_reducible refine Below.drew ?_) | (with_reducible refine RowKit.Below.drawnN ?_ _) | (with_reducible refine Below.setCell ?_ ?_ _) | (exact (by first | (simp; done) | (simp; omega) | omega)))))))))
      refine wpQuiet_nil ?_
      rintro _ ⟨xx, rfl⟩
      go_wp2
      go_ret
      exact ⟨rfl, (by repeat (first | (with_reducible exact Below.refl _ _) | (with_reducible assumption) | (with_reducible refine RowKit.Below.ext ?_ ?_ _) | (with_reducible refine Below.alloc ?_ ?_ _) | (with_reducible refine Below.drew ?_) | (with_reducible refine RowKit.Below.drawnN ?_ _) | (with_reducible refine Below.setCell ?_ ?_ _) | (exact (by first | (simp; done) | (simp; omega) | omega))))⟩
end Go.Proofs.YthilkphnjffnhaaGreat
/- The walks of the last filter and of passes. -/
namespace Go.Proofs.YthilkphnjffnhaaGreat
open Go.RowKit
set_option linter.unusedVariables false
set_option linter.unusedSimpArgs false
set_option maxRecDepth 100000 in
set_option maxHeartbeats 8000000 in
theorem f6_any (r : Rc) (x s : DI) (w : World) (hr : r.In w) (hx : x.Bd) (hs : s.Bd) :
    Calls Tryz.prog 83 #[r.val, x.v, s.v] w fun e w' => e = .returned (.bool (f6P r x s)) ∧ Below w.heap.size w w' := by
  have key : f6P r x s = if 0 < r.md.l.length ∨ 0 < r.yd.l.length ∨ 0 < r.dy.l.length then true
    else if r.f = 1 ∧ 0 < r.wk.l.length ∨ r.f = 3 then wkd x.day == wkd s.day
    else if r.f = 1 then x.d == s.d && (decide (0 < r.mo.l.length) || x.m == s.m)
    else if r.f = 2 then x.d == s.d
    else true := rfl
  have e1 := hx.e1
  have e2 := hx.e2
  have e3 := hs.e1
  have e4 := hs.e2
  have CX := Lib.hid (fun w => rweekday_any x.day w (by omega) (by omega))
  have CS := Lib.hid (fun w => rweekday_any s.day w (by omega) (by omega))
  rw [key]
  clear hr key hx hs e1 e2 e3 e4
  generalize wkd x.day = wx at *
  generalize wkd s.day = wz at *
  obtain ⟨xy, xm, xd, xday, xinY, xofY, xinM, xofM⟩ := x
  obtain ⟨sy, sm, sd, sday, sinY, sofY, sinM, sofM⟩ := s
  dsimp only [DI.v] at *
  by_cases a1 : 0 < r.md.l.length
  · rw [if_pos (.inl a1)]
    go_enter Tryz.func83, Tryz.ntmps83
    go_wp2
    go_ret
    exact ⟨rfl, (by repeat (first | (with_reducible exact Below.refl _ _) | (with_reducible assumption) | (with_reducible refine RowKit.Below.ext ?_ ?_ _) | (with_reducible refine Below.alloc ?_ ?_ _) | (with_reducible refine Below.drew ?_) | (with_reducible refine RowKit.Below.drawnN ?_ _) | (with_reducible refine Below.setCell ?_ ?_ _) | (exact (by first | (simp; done) | (simp; omega) | omega))))⟩
  by_cases a2 : 0 < r.yd.l.length
  · rw [if_pos (.inr (.inl a2))]
    go_enter Tryz.func83, Tryz.ntmps83
    go_wp2
    go_ret
    exact ⟨rfl, (by repeat (first | (with_reducible exact Below.refl _ _) | (with_reducible assumption) | (with_reducible refine RowKit.Below.ext ?_ ?_ _) | (with_reducible refine Below.alloc ?_ ?_ _) | (with_reducible refine Below.drew ?_) | (with_reducible refine RowKit.Below.drawnN ?_ _) | (with_reducible refine Below.setCell ?_ ?_ _) | (exact (by first | (simp; done) | (simp; omega) | omega))))⟩
  by_cases a3 : 0 < r.dy.l.length
  · rw [if_pos (.inr (.inr a3))]
    go_enter Tryz.func83, Tryz.ntmps83
    go_wp2
    go_ret
    exact ⟨rfl, (by repeat (first | (with_reducible exact Below.refl _ _) | (with_reducible assumption) | (with_reducible refine RowKit.Below.ext ?_ ?_ _) | (with_reducible refine Below.alloc ?_ ?_ _) | (with_reducible refine Below.drew ?_) | (with_reducible refine RowKit.Below.drawnN ?_ _) | (with_reducible refine Below.setCell ?_ ?_ _) | (exact (by first | (simp; done) | (simp; omega) | omega))))⟩
  rw [if_neg (by omega)]
  by_cases f1 : r.f = 1
  · have f2 : (r.f == 1) = true := by simp [f1]
    have f3 : (r.f == 3) = false := by simp [f1]
    by_cases a4 : 0 < r.wk.l.length
    · rw [if_pos (.inl ⟨f1, a4⟩)]
      clear f1
      go_enter Tryz.func83, Tryz.ntmps83
      go_wp2_with refine wp_region_calm (by kernel_rfl) (by kernel_rfl) ?_
      repeat (go_big_quiet_step (first | (with_reducible exact Calls.calm_of_drew (CX.out _)) | (with_reducible exact Calls.calm_of_drew (CS.out _))))
      refine wpQuiet_nil ?_
      rintro _ ⟨xx, rfl⟩
      go_wp2
      go_ret
      exact ⟨rfl, (by repeat (first | (with_reducible exact Below.refl _ _) | (with_reducible assumption) | (with_reducible refine RowKit.Below.ext ?_ ?_ _) | (with_reducible refine Below.alloc ?_ ?_ _) | (with_reducible refine Below.drew ?_) | (with_reducible refine RowKit.Below.drawnN ?_ _) | (with_reducible refine Below.setCell ?_ ?_ _) | (exact (by first | (simp; done) | (simp; omega) | omega))))⟩
    · rw [if_neg (by omega), if_pos f1]
      clear f1
      cases c1 : (xd == sd)
      · rw [Bool.false_and]
        go_enter Tryz.func83, Tryz.ntmps83
        go_wp2_with refine wp_region_calm (by kernel_rfl) (by kernel_rfl) ?_
        repeat (go_big_quiet_step (first | (with_reducible exact Calls.calm_of_drew (CX.out _)) | (with_reducible exact Calls.calm_of_drew (CS.out _))))
        refine wpQuiet_nil ?_
        rintro _ ⟨xx, rfl⟩
        go_wp2
        go_ret
        exact ⟨rfl, (by repeat (first | (with_reducible exact Below.refl _ _) | (with_reducible assumption) | (with_reducible refine RowKit.Below.ext ?_ ?_ _) | (with_reducible refine Below.alloc ?_ ?_ _) | (with_reducible refine Below.drew ?_) | (with_reducible refine RowKit.Below.drawnN ?_ _) | (with_reducible refine Below.setCell ?_ ?_ _) | (exact (by first | (simp; done) | (simp; omega) | omega))))⟩
      · rw [Bool.true_and]
        by_cases a5 : 0 < r.mo.l.length
        · rw [decide_eq_true a5, Bool.true_or]
          go_enter Tryz.func83, Tryz.ntmps83
          go_wp2_with refine wp_region_calm (by kernel_rfl) (by kernel_rfl) ?_
          repeat (go_big_quiet_step (first | (with_reducible exact Calls.calm_of_drew (CX.out _)) | (with_reducible exact Calls.calm_of_drew (CS.out _))))
          refine wpQuiet_nil ?_
          rintro _ ⟨xx, rfl⟩
          go_wp2
          go_ret
          exact ⟨rfl, (by repeat (first | (with_reducible exact Below.refl _ _) | (with_reducible assumption) | (with_reducible refine RowKit.Below.ext ?_ ?_ _) | (with_reducible refine Below.alloc ?_ ?_ _) | (with_reducible refine Below.drew ?_) | (with_reducible refine RowKit.Below.drawnN ?_ _) | (with_reducible refine Below.setCell ?_ ?_ _) | (exact (by first | (simp; done) | (simp; omega) | omega))))⟩
        · rw [decide_eq_false a5, Bool.false_or]
          go_enter Tryz.func83, Tryz.ntmps83
          go_wp2_with refine wp_region_calm (by kernel_rfl) (by kernel_rfl) ?_
          repeat (go_big_quiet_step (first | (with_reducible exact Calls.calm_of_drew (CX.out _)) | (with_reducible exact Calls.calm_of_drew (CS.out _))))
          refine wpQuiet_nil ?_
          rintro _ ⟨xx, rfl⟩
          go_wp2
          go_ret
          exact ⟨rfl, (by repeat (first | (with_reducible exact Below.refl _ _) | (with_reducible assumption) | (with_reducible refine RowKit.Below.ext ?_ ?_ _) | (with_reducible refine Below.alloc ?_ ?_ _) | (with_reducible refine Below.drew ?_) | (with_reducible refine RowKit.Below.drawnN ?_ _) | (with_reducible refine Below.setCell ?_ ?_ _) | (exact (by first | (simp; done) | (simp; omega) | omega))))⟩
  · have f2 : (r.f == 1) = false := by simp [f1]
    by_cases f3 : r.f = 3
    · have f4 : (r.f == 3) = true := by simp [f3]
      rw [if_pos (.inr f3)]
      clear f1 f3
      go_enter Tryz.func83, Tryz.ntmps83
      go_wp2_with refine wp_region_calm (by kernel_rfl) (by kernel_rfl) ?_
      repeat (go_big_quiet_step (first | (with_reducible exact Calls.calm_of_drew (CX.out _)) | (with_reducible exact Calls.calm_of_drew (CS.out _))))
      refine wpQuiet_nil ?_
      rintro _ ⟨xx, rfl⟩
      go_wp2
      go_ret
      exact ⟨rfl, (by repeat (first | (with_reducible exact Below.refl _ _) | (with_reducible assumption) | (with_reducible refine RowKit.Below.ext ?_ ?_ _) | (with_reducible refine Below.alloc ?_ ?_ _) | (with_reducible refine Below.drew ?_) | (with_reducible refine RowKit.Below.drawnN ?_ _) | (with_reducible refine Below.setCell ?_ ?_ _) | (exact (by first | (simp; done) | (simp; omega) | omega))))⟩
    · have f4 : (r.f == 3) = false := by simp [f3]
      rw [if_neg (by omega), if_neg f1]
      by_cases f5 : r.f = 2
      · have f6 : (r.f == 2) = true := by simp [f5]
        rw [if_pos f5]
        clear f1 f3 f5
        go_enter Tryz.func83, Tryz.ntmps83
        go_wp2_with refine wp_region_calm (by kernel_rfl) (by kernel_rfl) ?_
        repeat (go_big_quiet_step (first | (with_reducible exact Calls.calm_of_drew (CX.out _)) | (with_reducible exact Calls.calm_of_drew (CS.out _))))
        refine wpQuiet_nil ?_
        rintro _ ⟨xx, rfl⟩
        go_wp2
        go_ret
        exact ⟨rfl, (by repeat (first | (with_reducible exact Below.refl _ _) | (with_reducible assumption) | (with_reducible refine RowKit.Below.ext ?_ ?_ _) | (with_reducible refine Below.alloc ?_ ?_ _) | (with_reducible refine Below.drew ?_) | (with_reducible refine RowKit.Below.drawnN ?_ _) | (with_reducible refine Below.setCell ?_ ?_ _) | (exact (by first | (simp; done) | (simp; omega) | omega))))⟩
      · have f6 : (r.f == 2) = false := by simp [f5]
        rw [if_neg f5]
        clear f1 f3 f5
        go_enter Tryz.func83, Tryz.ntmps83
        go_wp2_with refine wp_region_calm (by kernel_rfl) (by kernel_rfl) ?_
        repeat (go_big_quiet_step (first | (with_reducible exact Calls.calm_of_drew (CX.out _)) | (with_reducible exact Calls.calm_of_drew (CS.out _))))
        refine wpQuiet_nil ?_
        rintro _ ⟨xx, rfl⟩
        go_wp2
        go_ret
        exact ⟨rfl, (by repeat (first | (with_reducible exact Below.refl _ _) | (with_reducible assumption) | (with_reducible refine RowKit.Below.ext ?_ ?_ _) | (with_reducible refine Below.alloc ?_ ?_ _) | (with_reducible refine Below.drew ?_) | (with_reducible refine RowKit.Below.drawnN ?_ _) | (with_reducible refine Below.setCell ?_ ?_ _) | (exact (by first | (simp; done) | (simp; omega) | omega))))⟩
end Go.Proofs.YthilkphnjffnhaaGreat
