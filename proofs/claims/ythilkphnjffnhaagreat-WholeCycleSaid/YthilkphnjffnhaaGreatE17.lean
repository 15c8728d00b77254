/- The functions never and Times, whatever the rule is. -/
import Derived.Test.YthilkphnjffnhaaGreatJQ
namespace Go.Proofs.YthilkphnjffnhaaGreat
open Go.RowKit
set_option linter.unusedVariables false
set_option linter.unusedSimpArgs false
theorem never_any (r : Rc) (s : SlI) (w : World) (hr : r.In w) (hs : s.In w) (hv : validB r = true) (hl : s.l.length ≤ 1000000000) (hb : ∀ x ∈ s.l, 0 ≤ x ∧ x < 86400) :
    Calls Tryz.prog 63 #[r.val, s.v] w fun e w' => e = .returned (.bool (neverP r s.l)) ∧ Below w.heap.size w w' := by
  by_cases h4 : r.f = 4
  · exact never_b r s w hr hs hv hl h4
  by_cases h5 : r.f = 5
  · exact never_c r s w hr hs hv hl hb h5
  · exact never_a r s w h4 h5

def RetTF (L : List Int) (w : World) : Ending → World → Prop := fun e w' => ∃ so : SlI, e = .returned (.tuple #[so.v, .int .i64 0]) ∧ so.l = L ∧ so.In w' ∧ Below w.heap.size w w' ∧ ∀ a, so.A = some a → w.heap.size ≤ a.block

set_option maxHeartbeats 4000000 in
theorem rtimes_new (r : Rc) (t : Int) (w : World) (hr : r.In w) (hv : validB r = true) (ht : inP t) :
    Calls Tryz.prog 62 #[r.val, .int .i64 t] w (RetTF (timesP r.f r.ho.l r.mi.l r.se.l (t % 86400)) w) := by
  have C := Lib.hid (fun w (h : r.In w) => given_yes r t w h hv ht.loc)
  have CT := Lib.hid (fun w (h : r.In w) => times_okF r t w h (Rc.Ok.of hv) ht.loc)
  have HR := Lib.hid hr
  clear hr hv ht
  generalize timesP r.f r.ho.l r.mi.l r.se.l (t % 86400) = L at *
  go_enter Tryz.func62, Tryz.ntmps62
  go_wp2_with fail
  refine (C.out _ (HR.out.below (by repeat (first | (with_reducible exact Below.refl _ _) | (with_reducible assumption) | (with_reducible refine RowKit.Below.ext ?_ ?_ _) | (with_reducible refine Below.alloc ?_ ?_ _) | (with_reducible refine Below.drew ?_) | (with_reducible refine RowKit.Below.drawnN ?_ _) | (with_reducible refine Below.setCell ?_ ?_ _) | (exact (by first | (simp; done) | (simp; omega) | omega)))))).mono ?_
  rintro e w1 ⟨rfl, hb1⟩; obtain ⟨x, rfl⟩ := hb1.toExt; clear hb1
  go_wp2_with fail
  refine (CT.out _ (HR.out.below (by repeat (first | (with_reducible exact Below.refl _ _) | (with_reducible assumption) | (with_reducible refine RowKit.Below.ext ?_ ?_ _) | (with_reducible refine Below.alloc ?_ ?_ _) | (with_reducible refine Below.drew ?_) | (with_reducible refine RowKit.Below.drawnN ?_ _) | (with_reducible refine Below.setCell ?_ ?_ _) | (exact (by first | (simp; done) | (simp; omega) | omega)))))).mono ?_
  rintro e w2 ⟨so, rfl, h1, h2, hb2, h3⟩
  have hsz := hb2.size
  obtain ⟨y, rfl⟩ := hb2.toExt
  clear hb2
  have Q2 := Lib.hid h2
  have Q3 := Lib.hid h3
  clear h2 h3
  obtain ⟨A, c, l⟩ := so
  dsimp only at h1
  subst h1
  go_wp2
  go_ret2
  exact ⟨⟨A, c, l⟩, rfl, rfl, Q2.out, (by repeat (first | (with_reducible exact Below.refl _ _) | (with_reducible assumption) | (with_reducible refine RowKit.Below.ext ?_ ?_ _) | (with_reducible refine Below.alloc ?_ ?_ _) | (with_reducible refine Below.drew ?_) | (with_reducible refine RowKit.Below.drawnN ?_ _) | (with_reducible refine Below.setCell ?_ ?_ _) | (exact (by first | (simp; done) | (simp; omega) | omega)))), fun a ha => by have := Q3.out a ha; simp at this; omega⟩
end Go.Proofs.YthilkphnjffnhaaGreat
