/- The walk of recurrence.Valid. -/
import Derived.Test.YthilkphnjffnhaaGreatJE
namespace Go.Proofs.YthilkphnjffnhaaGreat
open Go.RowKit
set_option linter.unusedVariables false
set_option linter.unusedSimpArgs false

def dayOK (f : Int) (o : Int × Int) : Bool := decide (1 ≤ o.2 ∧ o.2 ≤ 7 ∧ -53 ≤ o.1 ∧ o.1 ≤ 53 ∧ (o.1 = 0 ∨ f = 1 ∨ f = 2))
def headP (r : Rc) : Prop := (1 ≤ r.f ∧ r.f ≤ 5) ∧ (1 ≤ r.iv ∧ r.iv ≤ 1000) ∧ (1 ≤ r.ws ∧ r.ws ≤ 7) ∧ (0 ≤ r.ct ∧ r.ct ≤ 1000) ∧ (r.un = 0 ∨ (-62135596800 ≤ r.un ∧ r.un < 253402300800) ∧ r.ct = 0)
instance (r : Rc) : Decidable (headP r) := by unfold headP; infer_instance
def validB (r : Rc) : Bool :=
  decide (headP r) && (btwP r.mo.l 1 12 false && (btwP r.md.l 1 31 true && (btwP r.yd.l 1 366 true && (btwP r.wk.l 1 53 true && (btwP r.ho.l 0 23 false && (btwP r.mi.l 0 59 false && (btwP r.se.l 0 59 false && (btwP r.po.l 1 366 true &&
  (decide (r.wk.l.length = 0 ∨ r.f = 1) && (decide (r.dy.l.length ≤ 60) && (r.dy.l.all (dayOK r.f) && decide ((timesP r.f r.ho.l r.mi.l r.se.l 0).length ≤ 1440))))))))))))

theorem btwP_len {l : List Int} {lo hi : Int} {sg : Bool} (h : btwP l lo hi sg = true) : l.length ≤ 60 := by
  unfold btwP at h; simp at h; exact h.1
theorem btwP_in {l : List Int} {lo hi : Int} (h : btwP l lo hi false = true) : ∀ x ∈ l, lo ≤ x ∧ x ≤ hi := by
  intro x hx
  unfold btwP outP at h
  simp at h
  have := h.2 x hx
  omega

theorem local_any (a : Int) (w : World) :
    Calls Tryz.prog 24 #[.int .i64 a] w fun e w' => e = .returned (.bool (decide (-62135596800 ≤ a ∧ a < 253402300800))) ∧ w = w' := by
  by_cases h1 : -62135596800 ≤ a
  · by_cases h2 : a < 253402300800
    · go_enter Tryz.func24, Tryz.ntmps24
      go_wp2
      go_ret
      exact ⟨by simp [h1, h2], rfl⟩
    · go_enter Tryz.func24, Tryz.ntmps24
      go_wp2
      go_ret
      exact ⟨by simp [h1]; omega, rfl⟩
  · go_enter Tryz.func24, Tryz.ntmps24
    go_wp2
    go_ret
    exact ⟨by simp; omega, rfl⟩


set_option maxRecDepth 100000 in
set_option maxHeartbeats 4000000 in
/-- what fails at its numbers -/
theorem valid_head (r : Rc) (w : World) (h : ¬ headP r) :
    Calls Tryz.prog 8 #[r.val] w fun e w' => e = .returned (.bool (validB r)) ∧ Below w.heap.size w w' := by
  have key : validB r = false := by unfold validB; rw [decide_eq_false h, Bool.false_and]
  have KEY := Lib.hid key
  clear key
  by_cases c1 : r.f < 1
  · clear h
    go_enter Tryz.func8, Tryz.ntmps8
    go_wp2
    go_ret
    exact ⟨bout KEY.out.symm, (by repeat (first | exact Below.refl _ _ | assumption | refine RowKit.Below.ext ?_ (by first | (simp; done) | (simp; omega) | omega) _ | refine Below.alloc ?_ (by first | (simp; done) | (simp; omega) | omega) _ | refine Below.drew ?_ | refine RowKit.Below.drawnN ?_ _ | refine Below.setCell ?_ (by first | (simp; done) | (simp; omega) | omega) _))⟩
  by_cases c2 : 5 < r.f
  · clear h
    go_enter Tryz.func8, Tryz.ntmps8
    go_wp2
    go_ret
    exact ⟨bout KEY.out.symm, (by repeat (first | exact Below.refl _ _ | assumption | refine RowKit.Below.ext ?_ (by first | (simp; done) | (simp; omega) | omega) _ | refine Below.alloc ?_ (by first | (simp; done) | (simp; omega) | omega) _ | refine Below.drew ?_ | refine RowKit.Below.drawnN ?_ _ | refine Below.setCell ?_ (by first | (simp; done) | (simp; omega) | omega) _))⟩
  by_cases c3 : r.iv < 1
  · clear h
    go_enter Tryz.func8, Tryz.ntmps8
    go_wp2
    go_ret
    exact ⟨bout KEY.out.symm, (by repeat (first | exact Below.refl _ _ | assumption | refine RowKit.Below.ext ?_ (by first | (simp; done) | (simp; omega) | omega) _ | refine Below.alloc ?_ (by first | (simp; done) | (simp; omega) | omega) _ | refine Below.drew ?_ | refine RowKit.Below.drawnN ?_ _ | refine Below.setCell ?_ (by first | (simp; done) | (simp; omega) | omega) _))⟩
  by_cases c4 : 1000 < r.iv
  · clear h
    go_enter Tryz.func8, Tryz.ntmps8
    go_wp2
    go_ret
    exact ⟨bout KEY.out.symm, (by repeat (first | exact Below.refl _ _ | assumption | refine RowKit.Below.ext ?_ (by first | (simp; done) | (simp; omega) | omega) _ | refine Below.alloc ?_ (by first | (simp; done) | (simp; omega) | omega) _ | refine Below.drew ?_ | refine RowKit.Below.drawnN ?_ _ | refine Below.setCell ?_ (by first | (simp; done) | (simp; omega) | omega) _))⟩
  by_cases c5 : r.ws < 1
  · clear h
    go_enter Tryz.func8, Tryz.ntmps8
    go_wp2
    go_ret
    exact ⟨bout KEY.out.symm, (by repeat (first | exact Below.refl _ _ | assumption | refine RowKit.Below.ext ?_ (by first | (simp; done) | (simp; omega) | omega) _ | refine Below.alloc ?_ (by first | (simp; done) | (simp; omega) | omega) _ | refine Below.drew ?_ | refine RowKit.Below.drawnN ?_ _ | refine Below.setCell ?_ (by first | (simp; done) | (simp; omega) | omega) _))⟩
  by_cases c6 : 7 < r.ws
  · clear h
    go_enter Tryz.func8, Tryz.ntmps8
    go_wp2
    go_ret
    exact ⟨bout KEY.out.symm, (by repeat (first | exact Below.refl _ _ | assumption | refine RowKit.Below.ext ?_ (by first | (simp; done) | (simp; omega) | omega) _ | refine Below.alloc ?_ (by first | (simp; done) | (simp; omega) | omega) _ | refine Below.drew ?_ | refine RowKit.Below.drawnN ?_ _ | refine Below.setCell ?_ (by first | (simp; done) | (simp; omega) | omega) _))⟩
  by_cases c7 : r.ct < 0
  · clear h
    go_enter Tryz.func8, Tryz.ntmps8
    go_wp2
    go_ret
    exact ⟨bout KEY.out.symm, (by repeat (first | exact Below.refl _ _ | assumption | refine RowKit.Below.ext ?_ (by first | (simp; done) | (simp; omega) | omega) _ | refine Below.alloc ?_ (by first | (simp; done) | (simp; omega) | omega) _ | refine Below.drew ?_ | refine RowKit.Below.drawnN ?_ _ | refine Below.setCell ?_ (by first | (simp; done) | (simp; omega) | omega) _))⟩
  by_cases c8 : 1000 < r.ct
  · clear h
    go_enter Tryz.func8, Tryz.ntmps8
    go_wp2
    go_ret
    exact ⟨bout KEY.out.symm, (by repeat (first | exact Below.refl _ _ | assumption | refine RowKit.Below.ext ?_ (by first | (simp; done) | (simp; omega) | omega) _ | refine Below.alloc ?_ (by first | (simp; done) | (simp; omega) | omega) _ | refine Below.drew ?_ | refine RowKit.Below.drawnN ?_ _ | refine Below.setCell ?_ (by first | (simp; done) | (simp; omega) | omega) _))⟩
  have hu : r.un ≠ 0 ∧ (¬ (-62135596800 ≤ r.un ∧ r.un < 253402300800) ∨ r.ct ≠ 0) := by
    refine ⟨fun h0 => h ⟨⟨by omega, by omega⟩, ⟨by omega, by omega⟩, ⟨by omega, by omega⟩, ⟨by omega, by omega⟩, .inl h0⟩, ?_⟩
    by_cases a : -62135596800 ≤ r.un ∧ r.un < 253402300800
    · right
      intro hct
      exact h ⟨⟨by omega, by omega⟩, ⟨by omega, by omega⟩, ⟨by omega, by omega⟩, ⟨by omega, by omega⟩, .inr ⟨a, hct⟩⟩
    · exact .inl a
  clear h
  have d0 : (r.un != 0) = true := by simp [hu.1]
  by_cases a : -62135596800 ≤ r.un ∧ r.un < 253402300800
  · have d1 : (r.ct != 0) = true := by
      simp only [bne_iff_ne, ne_eq]
      rcases hu.2 with h | h
      · exact absurd a h
      · exact h
    have lc := fun w => local_any r.un w
    rw [decide_eq_true a] at lc
    have LC := Lib.hid lc
    clear hu lc a
    go_enter Tryz.func8, Tryz.ntmps8
    go_wp2_with fail
    refine (LC.out _).mono ?_
    rintro e w1 ⟨rfl, rfl⟩
    go_wp2
    go_ret
    exact ⟨bout KEY.out.symm, (by repeat (first | exact Below.refl _ _ | assumption | refine RowKit.Below.ext ?_ (by first | (simp; done) | (simp; omega) | omega) _ | refine Below.alloc ?_ (by first | (simp; done) | (simp; omega) | omega) _ | refine Below.drew ?_ | refine RowKit.Below.drawnN ?_ _ | refine Below.setCell ?_ (by first | (simp; done) | (simp; omega) | omega) _))⟩
  · have lc := fun w => local_any r.un w
    rw [decide_eq_false a] at lc
    have LC := Lib.hid lc
    clear hu lc a
    go_enter Tryz.func8, Tryz.ntmps8
    go_wp2_with fail
    refine (LC.out _).mono ?_
    rintro e w1 ⟨rfl, rfl⟩
    go_wp2
    go_ret
    exact ⟨bout KEY.out.symm, (by repeat (first | exact Below.refl _ _ | assumption | refine RowKit.Below.ext ?_ (by first | (simp; done) | (simp; omega) | omega) _ | refine Below.alloc ?_ (by first | (simp; done) | (simp; omega) | omega) _ | refine Below.drew ?_ | refine RowKit.Below.drawnN ?_ _ | refine Below.setCell ?_ (by first | (simp; done) | (simp; omega) | omega) _))⟩
end Go.Proofs.YthilkphnjffnhaaGreat
/- The walk of recurrence.Valid, where its numbers are in order. -/
namespace Go.Proofs.YthilkphnjffnhaaGreat
open Go.RowKit
set_option linter.unusedVariables false
set_option linter.unusedSimpArgs false

/-- what stands behind, asked at a world of which just this is known -/
theorem at_world {P : Program} {c : Code} {Q : Exit → Act → World → Prop} {a : Act} {W0 : World} (C : World → Prop) (h : C W0) (hw : ∀ W, C W → c.wp P Q a W) : c.wp P Q a W0 := hw W0 h
theorem validB_head {r : Rc} (h : headP r) (rest : Bool) (hk : validB r = (decide (headP r) && rest)) : validB r = rest := by rw [hk, decide_eq_true h, Bool.true_and]



set_option maxRecDepth 100000 in
set_option maxHeartbeats 8000000 in
theorem valid_main0 (r : Rc) (w : World) (hr : r.In w) (h : headP r) (hu : r.un = 0) :
    Calls Tryz.prog 8 #[r.val] w fun e w' => e = .returned (.bool (validB r)) ∧ Below w.heap.size w w' := by
  have key := validB_head h _ rfl
  obtain ⟨⟨h1, h2⟩, ⟨h3, h4⟩, ⟨h5, h6⟩, ⟨h7, h8⟩, hq⟩ := h
  clear hq
  have c1 : ¬ r.f < 1 := by omega
  have c2 : ¬ 5 < r.f := by omega
  have c3 : ¬ r.iv < 1 := by omega
  have c4 : ¬ 1000 < r.iv := by omega
  have c5 : ¬ r.ws < 1 := by omega
  have c6 : ¬ 7 < r.ws := by omega
  have c7 : ¬ r.ct < 0 := by omega
  have c8 : ¬ 1000 < r.ct := by omega
  have d0 : (r.un != 0) = false := by simp [hu]
  clear h1 h2 h3 h4 h5 h6 h7 h8
  have HR := Lib.hid hr
  have KEY := Lib.hid key
  clear hu hr key
  go_enter Tryz.func8, Tryz.ntmps8
  go_wp2_with fail
  refine (between_any r.mo 1 12 false _ (HR.out.mo.below (by repeat (first | exact Below.refl _ _ | assumption | refine RowKit.Below.ext ?_ (by first | (simp; done) | (simp; omega) | omega) _ | refine Below.alloc ?_ (by first | (simp; done) | (simp; omega) | omega) _ | refine Below.drew ?_ | refine RowKit.Below.drawnN ?_ _ | refine Below.setCell ?_ (by first | (simp; done) | (simp; omega) | omega) _))) (by omega) (by omega) (by omega) (by omega)).mono ?_
  rintro e w1 ⟨rfl, hb1⟩; obtain ⟨x, rfl⟩ := hb1.toExt; clear hb1
  cases q1 : btwP r.mo.l 1 12 false
  · have KF := Lib.hid (show validB r = false by rw [KEY.out, q1, Bool.false_and])
    clear KEY q1
    go_wp2
    go_ret
    exact ⟨bout KF.out.symm, (by repeat (first | exact Below.refl _ _ | assumption | refine RowKit.Below.ext ?_ (by first | (simp; done) | (simp; omega) | omega) _ | refine Below.alloc ?_ (by first | (simp; done) | (simp; omega) | omega) _ | refine Below.drew ?_ | refine RowKit.Below.drawnN ?_ _ | refine Below.setCell ?_ (by first | (simp; done) | (simp; omega) | omega) _))⟩
  have Q1 := Lib.hid q1
  clear q1
  go_wp2_with fail
  refine (between_any r.md 1 31 true _ (HR.out.md.below (by repeat (first | exact Below.refl _ _ | assumption | refine RowKit.Below.ext ?_ (by first | (simp; done) | (simp; omega) | omega) _ | refine Below.alloc ?_ (by first | (simp; done) | (simp; omega) | omega) _ | refine Below.drew ?_ | refine RowKit.Below.drawnN ?_ _ | refine Below.setCell ?_ (by first | (simp; done) | (simp; omega) | omega) _))) (by omega) (by omega) (by omega) (by omega)).mono ?_
  rintro e w1 ⟨rfl, hb1⟩; obtain ⟨x, rfl⟩ := hb1.toExt; clear hb1
  cases q2 : btwP r.md.l 1 31 true
  · have KF := Lib.hid (show validB r = false by rw [KEY.out, q2, Bool.false_and, Bool.and_false])
    clear KEY q2
    go_wp2
    go_ret
    exact ⟨bout KF.out.symm, (by repeat (first | exact Below.refl _ _ | assumption | refine RowKit.Below.ext ?_ (by first | (simp; done) | (simp; omega) | omega) _ | refine Below.alloc ?_ (by first | (simp; done) | (simp; omega) | omega) _ | refine Below.drew ?_ | refine RowKit.Below.drawnN ?_ _ | refine Below.setCell ?_ (by first | (simp; done) | (simp; omega) | omega) _))⟩
  have Q2 := Lib.hid q2
  clear q2
  go_wp2_with fail
  refine (between_any r.yd 1 366 true _ (HR.out.yd.below (by repeat (first | exact Below.refl _ _ | assumption | refine RowKit.Below.ext ?_ (by first | (simp; done) | (simp; omega) | omega) _ | refine Below.alloc ?_ (by first | (simp; done) | (simp; omega) | omega) _ | refine Below.drew ?_ | refine RowKit.Below.drawnN ?_ _ | refine Below.setCell ?_ (by first | (simp; done) | (simp; omega) | omega) _))) (by omega) (by omega) (by omega) (by omega)).mono ?_
  rintro e w1 ⟨rfl, hb1⟩; obtain ⟨x, rfl⟩ := hb1.toExt; clear hb1
  cases q3 : btwP r.yd.l 1 366 true
  · have KF := Lib.hid (show validB r = false by rw [KEY.out, q3]; simp only [Bool.false_and, Bool.and_false])
    clear KEY q3
    go_wp2
    go_ret
    exact ⟨bout KF.out.symm, (by repeat (first | exact Below.refl _ _ | assumption | refine RowKit.Below.ext ?_ (by first | (simp; done) | (simp; omega) | omega) _ | refine Below.alloc ?_ (by first | (simp; done) | (simp; omega) | omega) _ | refine Below.drew ?_ | refine RowKit.Below.drawnN ?_ _ | refine Below.setCell ?_ (by first | (simp; done) | (simp; omega) | omega) _))⟩
  have Q3 := Lib.hid q3
  clear q3
  go_wp2_with fail
  refine (between_any r.wk 1 53 true _ (HR.out.wk.below (by repeat (first | exact Below.refl _ _ | assumption | refine RowKit.Below.ext ?_ (by first | (simp; done) | (simp; omega) | omega) _ | refine Below.alloc ?_ (by first | (simp; done) | (simp; omega) | omega) _ | refine Below.drew ?_ | refine RowKit.Below.drawnN ?_ _ | refine Below.setCell ?_ (by first | (simp; done) | (simp; omega) | omega) _))) (by omega) (by omega) (by omega) (by omega)).mono ?_
  rintro e w1 ⟨rfl, hb1⟩; obtain ⟨x, rfl⟩ := hb1.toExt; clear hb1
  cases q4 : btwP r.wk.l 1 53 true
  · have KF := Lib.hid (show validB r = false by rw [KEY.out, q4]; simp only [Bool.false_and, Bool.and_false])
    clear KEY q4
    go_wp2
    go_ret
    exact ⟨bout KF.out.symm, (by repeat (first | exact Below.refl _ _ | assumption | refine RowKit.Below.ext ?_ (by first | (simp; done) | (simp; omega) | omega) _ | refine Below.alloc ?_ (by first | (simp; done) | (simp; omega) | omega) _ | refine Below.drew ?_ | refine RowKit.Below.drawnN ?_ _ | refine Below.setCell ?_ (by first | (simp; done) | (simp; omega) | omega) _))⟩
  have Q4 := Lib.hid q4
  clear q4
  go_wp2_with fail
  refine (between_any r.ho 0 23 false _ (HR.out.ho.below (by repeat (first | exact Below.refl _ _ | assumption | refine RowKit.Below.ext ?_ (by first | (simp; done) | (simp; omega) | omega) _ | refine Below.alloc ?_ (by first | (simp; done) | (simp; omega) | omega) _ | refine Below.drew ?_ | refine RowKit.Below.drawnN ?_ _ | refine Below.setCell ?_ (by first | (simp; done) | (simp; omega) | omega) _))) (by omega) (by omega) (by omega) (by omega)).mono ?_
  rintro e w1 ⟨rfl, hb1⟩; obtain ⟨x, rfl⟩ := hb1.toExt; clear hb1
  cases q5 : btwP r.ho.l 0 23 false
  · have KF := Lib.hid (show validB r = false by rw [KEY.out, q5]; simp only [Bool.false_and, Bool.and_false])
    clear KEY q5
    go_wp2
    go_ret
    exact ⟨bout KF.out.symm, (by repeat (first | exact Below.refl _ _ | assumption | refine RowKit.Below.ext ?_ (by first | (simp; done) | (simp; omega) | omega) _ | refine Below.alloc ?_ (by first | (simp; done) | (simp; omega) | omega) _ | refine Below.drew ?_ | refine RowKit.Below.drawnN ?_ _ | refine Below.setCell ?_ (by first | (simp; done) | (simp; omega) | omega) _))⟩
  have Q5 := Lib.hid q5
  clear q5
  go_wp2_with fail
  refine (between_any r.mi 0 59 false _ (HR.out.mi.below (by repeat (first | exact Below.refl _ _ | assumption | refine RowKit.Below.ext ?_ (by first | (simp; done) | (simp; omega) | omega) _ | refine Below.alloc ?_ (by first | (simp; done) | (simp; omega) | omega) _ | refine Below.drew ?_ | refine RowKit.Below.drawnN ?_ _ | refine Below.setCell ?_ (by first | (simp; done) | (simp; omega) | omega) _))) (by omega) (by omega) (by omega) (by omega)).mono ?_
  rintro e w1 ⟨rfl, hb1⟩; obtain ⟨x, rfl⟩ := hb1.toExt; clear hb1
  cases q6 : btwP r.mi.l 0 59 false
  · have KF := Lib.hid (show validB r = false by rw [KEY.out, q6]; simp only [Bool.false_and, Bool.and_false])
    clear KEY q6
    go_wp2
    go_ret
    exact ⟨bout KF.out.symm, (by repeat (first | exact Below.refl _ _ | assumption | refine RowKit.Below.ext ?_ (by first | (simp; done) | (simp; omega) | omega) _ | refine Below.alloc ?_ (by first | (simp; done) | (simp; omega) | omega) _ | refine Below.drew ?_ | refine RowKit.Below.drawnN ?_ _ | refine Below.setCell ?_ (by first | (simp; done) | (simp; omega) | omega) _))⟩
  have Q6 := Lib.hid q6
  clear q6
  go_wp2_with fail
  refine (between_any r.se 0 59 false _ (HR.out.se.below (by repeat (first | exact Below.refl _ _ | assumption | refine RowKit.Below.ext ?_ (by first | (simp; done) | (simp; omega) | omega) _ | refine Below.alloc ?_ (by first | (simp; done) | (simp; omega) | omega) _ | refine Below.drew ?_ | refine RowKit.Below.drawnN ?_ _ | refine Below.setCell ?_ (by first | (simp; done) | (simp; omega) | omega) _))) (by omega) (by omega) (by omega) (by omega)).mono ?_
  rintro e w1 ⟨rfl, hb1⟩; obtain ⟨x, rfl⟩ := hb1.toExt; clear hb1
  cases q7 : btwP r.se.l 0 59 false
  · have KF := Lib.hid (show validB r = false by rw [KEY.out, q7]; simp only [Bool.false_and, Bool.and_false])
    clear KEY q7
    go_wp2
    go_ret
    exact ⟨bout KF.out.symm, (by repeat (first | exact Below.refl _ _ | assumption | refine RowKit.Below.ext ?_ (by first | (simp; done) | (simp; omega) | omega) _ | refine Below.alloc ?_ (by first | (simp; done) | (simp; omega) | omega) _ | refine Below.drew ?_ | refine RowKit.Below.drawnN ?_ _ | refine Below.setCell ?_ (by first | (simp; done) | (simp; omega) | omega) _))⟩
  have Q7 := Lib.hid q7
  clear q7
  go_wp2_with fail
  refine (between_any r.po 1 366 true _ (HR.out.po.below (by repeat (first | exact Below.refl _ _ | assumption | refine RowKit.Below.ext ?_ (by first | (simp; done) | (simp; omega) | omega) _ | refine Below.alloc ?_ (by first | (simp; done) | (simp; omega) | omega) _ | refine Below.drew ?_ | refine RowKit.Below.drawnN ?_ _ | refine Below.setCell ?_ (by first | (simp; done) | (simp; omega) | omega) _))) (by omega) (by omega) (by omega) (by omega)).mono ?_
  rintro e w1 ⟨rfl, hb1⟩; obtain ⟨x, rfl⟩ := hb1.toExt; clear hb1
  cases q8 : btwP r.po.l 1 366 true
  · have KF := Lib.hid (show validB r = false by rw [KEY.out, q8]; simp only [Bool.false_and, Bool.and_false])
    clear KEY q8
    go_wp2
    go_ret
    exact ⟨bout KF.out.symm, (by repeat (first | exact Below.refl _ _ | assumption | refine RowKit.Below.ext ?_ (by first | (simp; done) | (simp; omega) | omega) _ | refine Below.alloc ?_ (by first | (simp; done) | (simp; omega) | omega) _ | refine Below.drew ?_ | refine RowKit.Below.drawnN ?_ _ | refine Below.setCell ?_ (by first | (simp; done) | (simp; omega) | omega) _))⟩
  have Q8 := Lib.hid q8
  clear q8
  have key2 : validB r = (decide (r.wk.l.length = 0 ∨ r.f = 1) && (decide (r.dy.l.length ≤ 60) && (r.dy.l.all (dayOK r.f) && decide ((timesP r.f r.ho.l r.mi.l r.se.l 0).length ≤ 1440)))) := by
    rw [KEY.out, Q1.out, Q2.out, Q3.out, Q4.out, Q5.out, Q6.out, Q7.out, Q8.out]; simp only [Bool.true_and]
  have KEY2 := Lib.hid key2
  clear key2 KEY
  by_cases e1 : r.wk.l.length = 0 ∨ r.f = 1
  rotate_left
  · have KF := Lib.hid (show validB r = false by rw [KEY2.out, decide_eq_false e1, Bool.false_and])
    have f1 : 0 < r.wk.l.length := by omega
    have f2 : (r.f != 1) = true := by simp; omega
    clear e1 KEY2
    go_wp2
    go_ret
    exact ⟨bout KF.out.symm, (by repeat (first | exact Below.refl _ _ | assumption | refine RowKit.Below.ext ?_ (by first | (simp; done) | (simp; omega) | omega) _ | refine Below.alloc ?_ (by first | (simp; done) | (simp; omega) | omega) _ | refine Below.drew ?_ | refine RowKit.Below.drawnN ?_ _ | refine Below.setCell ?_ (by first | (simp; done) | (simp; omega) | omega) _))⟩
  have e3 : 0 < r.wk.l.length → (r.f != 1) = false := by intro h; simp; omega
  have E1 := Lib.hid e1
  clear e1
  by_cases e4 : 0 < r.wk.l.length
  all_goals
    try have e5 := e3 e4
    clear e3
    by_cases g1 : r.dy.l.length ≤ 60
    rotate_left
    · have KF := Lib.hid (show validB r = false by rw [KEY2.out, decide_eq_false g1, Bool.false_and, Bool.and_false])
      have g2 : 60 < (r.dy.l.length : Int) := by omega
      clear g1 KEY2
      go_wp2
      go_ret
      exact ⟨bout KF.out.symm, (by repeat (first | exact Below.refl _ _ | assumption | refine RowKit.Below.ext ?_ (by first | (simp; done) | (simp; omega) | omega) _ | refine Below.alloc ?_ (by first | (simp; done) | (simp; omega) | omega) _ | refine Below.drew ?_ | refine RowKit.Below.drawnN ?_ _ | refine Below.setCell ?_ (by first | (simp; done) | (simp; omega) | omega) _))⟩
    have g2 : ¬ 60 < (r.dy.l.length : Int) := by omega
    have KEY3 := Lib.hid (show validB r = (r.dy.l.all (dayOK r.f) && decide ((timesP r.f r.ho.l r.mi.l r.se.l 0).length ≤ 1440)) by rw [KEY2.out, decide_eq_true E1.out, decide_eq_true g1]; simp only [Bool.true_and])
    clear KEY2 E1
    go_wp2_with fail
    try clear e5
    clear e4 g1 g2
    refine at_world (fun W => Below w.heap.size w W ∧ ∀ o, W.cell? ⟨w.heap.size, o, none⟩ = r.cells[o]?) ⟨(by repeat (first | exact Below.refl _ _ | assumption | refine RowKit.Below.ext ?_ (by first | (simp; done) | (simp; omega) | omega) _ | refine Below.alloc ?_ (by first | (simp; done) | (simp; omega) | omega) _ | refine Below.drew ?_ | refine RowKit.Below.drawnN ?_ _ | refine Below.setCell ?_ (by first | (simp; done) | (simp; omega) | omega) _)), fun o => ((show Below (w.alloc (.cells r.cells 25)).heap.size (w.alloc (.cells r.cells 25)) _ from (by repeat (first | exact Below.refl _ _ | assumption | refine RowKit.Below.ext ?_ (by first | (simp; done) | (simp; omega) | omega) _ | refine Below.alloc ?_ (by first | (simp; done) | (simp; omega) | omega) _ | refine Below.drew ?_ | refine RowKit.Below.drawnN ?_ _ | refine Below.setCell ?_ (by first | (simp; done) | (simp; omega) | omega) _))).cell (p := ⟨w.heap.size, o, none⟩) (by simp)).trans (World.cell?_alloc_at _ _ _ _ rfl)⟩ ?_
    intro W ⟨hB, hcw⟩
    have hIn := HR.out.dy.2.2
    dsimp only [SlO.v]
    generalize r.dy.A = A at hIn ⊢
    have QIN := Lib.hid hIn
    have QCW := Lib.hid hcw
    have QB := Lib.hid hB
    clear hIn hcw hB
    go_loopg [116] r.dy.l.length (fun gg v116 wr => ∃ k : Nat, k ≤ r.dy.l.length ∧ r.dy.l.length - k ≤ gg ∧ v116 = .int .i64 k ∧ Hid (Below W.heap.size W wr) ∧ Hid (∀ j (hj : j < k) (hl : j < r.dy.l.length), dayOK r.f r.dy.l[j] = true))
    case atStart => exact ⟨0, by omega, by omega, rfl, Below.refl _ _, fun j hj => absurd hj (Nat.not_lt_zero _)⟩
    case round =>
      obtain ⟨k, hk1, hk2, rfl, HBu, HA⟩ := hrel
      have hBw : Below w.heap.size w wr := QB.out.trans (HBu.out.mono QB.out.size)
      by_cases hlt : k < r.dy.l.length
      · have hltz : (k : Int) < (r.dy.l.length : Int) := by omega
        obtain ⟨b, off, rfl, hcc⟩ := QIN.out (by intro h; rw [h] at hlt; simp at hlt)
        have hc1 := cell_of_below hBw (hcc k hlt).1
        have hc2 := cell_of_below hBw (hcc k hlt).2
        have hf := cell_of_below HBu.out ((QCW.out 0).trans (rfl : _ = some (Value.int .i64 r.f)))
        clear hcc
        have hAll : dayOK r.f r.dy.l[k] = false → r.dy.l.all (dayOK r.f) = false := by
          intro h
          rw [List.all_eq_false]
          exact ⟨_, List.getElem_mem hlt, by rw [h]; simp⟩
        have hDef : dayOK r.f r.dy.l[k] = decide (1 ≤ r.dy.l[k].2 ∧ r.dy.l[k].2 ≤ 7 ∧ -53 ≤ r.dy.l[k].1 ∧ r.dy.l[k].1 ≤ 53 ∧ (r.dy.l[k].1 = 0 ∨ r.f = 1 ∨ r.f = 2)) := rfl
        generalize hy : r.dy.l[k] = y at hc1 hc2 hAll hDef
        have HY := Lib.hid hy
        have HB := Lib.hid hBw
        clear hy hBw
        by_cases n1 : y.2 < 1
        · have KF := Lib.hid (show validB r = false by rw [KEY3.out, hAll (by rw [hDef]; simp only [decide_eq_false_iff_not]; omega), Bool.false_and])
          clear hAll hDef KEY3
          try clear n5' n6' n7'
          go_wp2
          go_ret
          exact ⟨bout KF.out.symm, HB.out.alloc HB.out.size _⟩
        by_cases n2 : 7 < y.2
        · have KF := Lib.hid (show validB r = false by rw [KEY3.out, hAll (by rw [hDef]; simp only [decide_eq_false_iff_not]; omega), Bool.false_and])
          clear hAll hDef KEY3
          try clear n5' n6' n7'
          go_wp2
          go_ret
          exact ⟨bout KF.out.symm, HB.out.alloc HB.out.size _⟩
        by_cases n3 : y.1 < -53
        · have KF := Lib.hid (show validB r = false by rw [KEY3.out, hAll (by rw [hDef]; simp only [decide_eq_false_iff_not]; omega), Bool.false_and])
          clear hAll hDef KEY3
          try clear n5' n6' n7'
          go_wp2
          go_ret
          exact ⟨bout KF.out.symm, HB.out.alloc HB.out.size _⟩
        by_cases n4 : 53 < y.1
        · have KF := Lib.hid (show validB r = false by rw [KEY3.out, hAll (by rw [hDef]; simp only [decide_eq_false_iff_not]; omega), Bool.false_and])
          clear hAll hDef KEY3
          try clear n5' n6' n7'
          go_wp2
          go_ret
          exact ⟨bout KF.out.symm, HB.out.alloc HB.out.size _⟩
        cases n5 : (y.1 != 0)
        · have n6 : y.1 = 0 := by simpa using n5
          have HOK := Lib.hid (show dayOK r.f y = true by rw [hDef]; simp only [decide_eq_true_eq]; omega)
          clear n6
          clear hAll hDef
          have HHK := Lib.hid hk2
          clear hk2
          go_wp2
          go_roundg (r.dy.l.length - (k + 1))
          case measure => have := HHK.out; omega
          case rel =>
            refine ⟨k + 1, by omega, by omega, by go_num, HBu.out.alloc HBu.out.size _, (show Hid _ from fun j hj hl => ?_)⟩
            by_cases e : j = k
            · subst e
              rw [HY.out]; exact HOK.out
            · exact HA.out j (by omega) hl
        · have n5' : y.1 ≠ 0 := by simpa using n5
          cases n6 : (r.f != 1)
          · have n7 : r.f = 1 := by simpa using n6
            have HOK := Lib.hid (show dayOK r.f y = true by rw [hDef]; simp only [decide_eq_true_eq]; omega)
            clear n7 n5'
            clear hAll hDef
            have HHK := Lib.hid hk2
            clear hk2
            go_wp2
            go_roundg (r.dy.l.length - (k + 1))
            case measure => have := HHK.out; omega
            case rel =>
              refine ⟨k + 1, by omega, by omega, by go_num, HBu.out.alloc HBu.out.size _, (show Hid _ from fun j hj hl => ?_)⟩
              by_cases e : j = k
              · subst e
                rw [HY.out]; exact HOK.out
              · exact HA.out j (by omega) hl
          · have n6' : r.f ≠ 1 := by simpa using n6
            cases n7 : (r.f != 2)
            · have n8 : r.f = 2 := by simpa using n7
              have HOK := Lib.hid (show dayOK r.f y = true by rw [hDef]; simp only [decide_eq_true_eq]; omega)
              clear n8 n5' n6'
              clear hAll hDef
              have HHK := Lib.hid hk2
              clear hk2
              go_wp2
              go_roundg (r.dy.l.length - (k + 1))
              case measure => have := HHK.out; omega
              case rel =>
                refine ⟨k + 1, by omega, by omega, by go_num, HBu.out.alloc HBu.out.size _, (show Hid _ from fun j hj hl => ?_)⟩
                by_cases e : j = k
                · subst e
                  rw [HY.out]; exact HOK.out
                · exact HA.out j (by omega) hl
            · have n7' : r.f ≠ 2 := by simpa using n7
              have KF := Lib.hid (show validB r = false by rw [KEY3.out, hAll (by rw [hDef]; simp only [decide_eq_false_iff_not]; omega), Bool.false_and])
              clear hAll hDef KEY3
              try clear n5' n6' n7'
              go_wp2
              go_ret
              exact ⟨bout KF.out.symm, HB.out.alloc HB.out.size _⟩
      · have hltz : ¬ (k : Int) < (r.dy.l.length : Int) := by omega
        have hall : r.dy.l.all (dayOK r.f) = true := by
          rw [List.all_eq_true]
          intro x hx
          obtain ⟨i, hi, rfl⟩ := List.mem_iff_getElem.1 hx
          exact HA.out i (by omega) hi
        have KEY4 := Lib.hid (show validB r = decide ((timesP r.f r.ho.l r.mi.l r.se.l 0).length ≤ 1440) by rw [KEY3.out, hall, Bool.true_and])
        have QCW2 : Hid (∀ o, o < 14 → wr.cell? ⟨w.heap.size, o, none⟩ = r.cells[o]?) := fun o ho => by
          have := QCW.out o
          rw [Array.getElem?_eq_getElem (show o < r.cells.size from ho)] at this ⊢
          exact cell_of_below HBu.out this
        have HB := Lib.hid hBw
        have ht := times_any r 0 wr (HR.out.below hBw) (by omega) (by omega) (btwP_len Q5.out) (btwP_len Q6.out) (btwP_len Q7.out) (btwP_in Q5.out) (btwP_in Q6.out) (btwP_in Q7.out)
        rw [show (0 : Int) % 86400 = 0 from rfl] at ht
        have HT := Lib.hid ht
        clear QCW hall hBw KEY3 HA ht Q1 Q2 Q3 Q4 Q5 Q6 Q7 Q8
        have QCW : Hid (∀ o, o < 14 → wr.cell? ⟨w.heap.size, o, none⟩ = r.cells[o]?) := QCW2
        clear QCW2
        have c0 := (QCW.out 0 (by omega)).trans (rfl : _ = some (Value.int .i64 r.f))
        have c1 := (QCW.out 1 (by omega)).trans (rfl : _ = some (Value.int .i64 r.iv))
        have c2 := (QCW.out 2 (by omega)).trans (rfl : _ = some (Value.int .i64 r.ct))
        have c3 := (QCW.out 3 (by omega)).trans (rfl : _ = some (Value.int .i64 r.un))
        have c4 := (QCW.out 4 (by omega)).trans (rfl : _ = some r.mo.v)
        have c5 := (QCW.out 5 (by omega)).trans (rfl : _ = some r.md.v)
        have c6 := (QCW.out 6 (by omega)).trans (rfl : _ = some r.yd.v)
        have c7 := (QCW.out 7 (by omega)).trans (rfl : _ = some r.wk.v)
        have c8 := (QCW.out 8 (by omega)).trans (rfl : _ = some r.dy.v)
        have c9 := (QCW.out 9 (by omega)).trans (rfl : _ = some r.ho.v)
        have c10 := (QCW.out 10 (by omega)).trans (rfl : _ = some r.mi.v)
        have c11 := (QCW.out 11 (by omega)).trans (rfl : _ = some r.se.v)
        have c12 := (QCW.out 12 (by omega)).trans (rfl : _ = some r.po.v)
        have c13 := (QCW.out 13 (by omega)).trans (rfl : _ = some (Value.int .i64 r.ws))
        go_wp2_with fail
        refine HT.out.mono ?_
        rintro e w2 ⟨s1, rfl, hs1, hs2, hb2⟩
        clear c0 c1 c2 c3 c4 c5 c6 c7 c8 c9 c10 c11 c12 c13
        have HB2 := Lib.hid (HB.out.trans (hb2.mono HB.out.size))
        have HS1 := Lib.hid hs1
        clear hs1 hs2 hb2
        go_wp2
        go_ret
        refine ⟨bout ?_, HB2.out⟩
        rw [KEY4.out, ← HS1.out]
        rw [decide_eq_decide]
        omega
end Go.Proofs.YthilkphnjffnhaaGreat
