/- The walk of passes. -/
import Derived.Test.YthilkphnjffnhaaGreatJH
namespace Go.Proofs.YthilkphnjffnhaaGreat
open Go.RowKit
set_option linter.unusedVariables false
set_option linter.unusedSimpArgs false
theorem kept_cells {w0 W : World} {cs : Array Value} {b : Nat} (t : TypeId) (h : Below (w0.alloc (.cells cs t)).heap.size (w0.alloc (.cells cs t)) W) (hb : b = w0.heap.size) (o : Nat) :
    W.cell? ⟨b, o, none⟩ = cs[o]? := by
  subst hb
  exact (h.cell (p := ⟨w0.heap.size, o, none⟩) (by simp)).trans (World.cell?_alloc_at _ _ _ _ rfl)

theorem at_worldC {P : Program} {f : FuncId} {args : Array Value} {R : Ending → World → Prop} {W0 : World} (C : World → Prop) (h : C W0) (hw : ∀ W, C W → Calls P f args W R) : Calls P f args W0 R := hw W0 h

abbrev DI.cells (x : DI) : Array Value := #[.int .i64 x.y, .int .i64 x.m, .int .i64 x.d, .int .i64 x.day, .int .i64 x.inY, .int .i64 x.ofY, .int .i64 x.inM, .int .i64 x.ofM]

def FV : Array Value := #[.func (.func 76) #[] #[], .func (.func 77) #[] #[], .func (.func 78) #[] #[], .func (.func 79) #[] #[], .func (.func 81) #[] #[], .func (.func 83) #[] #[]]
theorem filters_any (w : World) : Calls Tryz.prog 57 #[] w fun e w' => e = .returned (.slice (some ⟨w.heap.size, 0, none⟩) 6 6) ∧ Below w.heap.size w w' ∧ ∀ o, w'.cell? ⟨w.heap.size, o, none⟩ = FV[o]? := by
  go_enter Tryz.func57, Tryz.ntmps57
  go_wp2
  go_ret
  exact ⟨rfl, (by repeat (first | (with_reducible exact Below.refl _ _) | (with_reducible assumption) | (with_reducible refine RowKit.Below.ext ?_ ?_ _) | (with_reducible refine Below.alloc ?_ ?_ _) | (with_reducible refine Below.drew ?_) | (with_reducible refine RowKit.Below.drawnN ?_ _) | (with_reducible refine Below.setCell ?_ ?_ _) | (exact (by first | (simp; done) | (simp; omega) | omega)))), fun o => World.cell?_alloc_at _ _ _ _ rfl⟩

/-- the answers of the filters, in their order -/
noncomputable def GL (r : Rc) (x s : DI) : List Bool := [f1P r x, f2P r x, f3P r x, f4P r x, f5P r x, f6P r x s]
theorem GL_all (r : Rc) (x s : DI) : (GL r x s).all id = (f1P r x && (f2P r x && (f3P r x && (f4P r x && (f5P r x && f6P r x s))))) := by simp [GL]

theorem filt (r : Rc) (x s : DI) (hx : x.Bd) (hs : s.Bd) (h1 : 1 ≤ r.ws) (h2 : r.ws ≤ 7) (k : Nat) (hk : k < 6) : ∃ fn b, FV[k]? = some (.func (.func fn) #[] #[]) ∧ (GL r x s)[k]? = some b ∧
    (∀ args w, (callFunc fn args).run Tryz.prog w = .ok (.enter fn args) w) ∧ ∀ w, r.In w → Calls Tryz.prog fn #[r.val, x.v, s.v] w fun e w' => e = .returned (.bool b) ∧ Below w.heap.size w w' := by
  match k, hk with
  | 0, _ => exact ⟨76, _, rfl, rfl, enters_of Tryz.func76 (by kernel_rfl) rfl, fun w hr => f1_any r x s w hr⟩
  | 1, _ => exact ⟨77, _, rfl, rfl, enters_of Tryz.func77 (by kernel_rfl) rfl, fun w hr => f2_any r x s w hr hx⟩
  | 2, _ => exact ⟨78, _, rfl, rfl, enters_of Tryz.func78 (by kernel_rfl) rfl, fun w hr => f3_any r x s w hr hx⟩
  | 3, _ => exact ⟨79, _, rfl, rfl, enters_of Tryz.func79 (by kernel_rfl) rfl, fun w hr => f4_any r x s w hr hx h1 h2⟩
  | 4, _ => exact ⟨81, _, rfl, rfl, enters_of Tryz.func81 (by kernel_rfl) rfl, fun w hr => f5_any r x s w hr hx⟩
  | 5, _ => exact ⟨83, _, rfl, rfl, enters_of Tryz.func83 (by kernel_rfl) rfl, fun w hr => f6_any r x s w hr hx hs⟩

theorem all_no (l : List Bool) (k : Nat) (h : l[k]? = some false) : l.all id = false := by
  rw [List.all_eq_false]
  exact ⟨false, List.mem_of_getElem? h, by simp⟩
theorem all_yes (l : List Bool) (h : ∀ k, k < l.length → l[k]? = some true) : l.all id = true := by
  rw [List.all_eq_true]
  intro x hx
  obtain ⟨i, hi, rfl⟩ := List.mem_iff_getElem.1 hx
  have := h i hi
  rw [List.getElem?_eq_getElem hi] at this
  simpa using this

set_option maxRecDepth 100000 in
set_option maxHeartbeats 8000000 in
theorem passes_any (r : Rc) (s : DI) (d : Int) (w : World) (hr : r.In w) (hs : s.Bd) (h1 : 1 ≤ r.ws) (h2 : r.ws ≤ 7) (hd1 : -719000 ≤ d) (hd2 : d < 2932897) :
    Calls Tryz.prog 31 #[r.val, s.v, .int .i64 d] w fun e w' => e = .returned (.bool (passP r s d)) ∧ Below w.heap.size w w' := by
  have key : passP r s d = (GL r (diP d) s).all id := (GL_all r (diP d) s).symm
  have HX := diP_ok d hd1 hd2
  have FI := Lib.hid (filt r (diP d) s HX hs h1 h2)
  have CX := Lib.hid (fun w => dateof_any d w (by omega) hd2)
  have HL : (GL r (diP d) s).length = 6 := rfl
  have HR := Lib.hid hr
  rw [key]
  clear hr key hs HX h1 h2
  generalize GL r (diP d) s = L at *
  generalize diP d = X at *
  have KN := Lib.hid (all_no L)
  have KY := Lib.hid (all_yes L)
  have XV : X.v = .agg X.cells := rfl
  have SV : s.v = .agg s.cells := rfl
  rw [SV]
  rw [XV] at CX
  rw [XV, SV] at FI
  clear XV SV
  go_enter Tryz.func31, Tryz.ntmps31
  go_wp2_with fail
  refine (CX.out _).mono ?_
  rintro e w1 ⟨rfl, hb1⟩; obtain ⟨x, rfl⟩ := hb1.toExt; clear hb1
  go_wp2_with fail
  refine at_worldC (fun W => Below w.heap.size w W ∧ (∀ o, W.cell? ⟨w.heap.size, o, none⟩ = r.cells[o]?) ∧ (∀ o, W.cell? ⟨w.heap.size + 1, o, none⟩ = s.cells[o]?) ∧ (∀ o, W.cell? ⟨w.heap.size + 1 + 1 + x.k, o, none⟩ = X.cells[o]?)) ⟨(by repeat (first | (with_reducible exact Below.refl _ _) | (with_reducible assumption) | (with_reducible refine RowKit.Below.ext ?_ ?_ _) | (with_reducible refine Below.alloc ?_ ?_ _) | (with_reducible refine Below.drew ?_) | (with_reducible refine RowKit.Below.drawnN ?_ _) | (with_reducible refine Below.setCell ?_ ?_ _) | (exact (by first | (simp; done) | (simp; omega) | omega)))), fun o => kept_cells 25 (by repeat (first | (with_reducible exact Below.refl _ _) | (with_reducible assumption) | (with_reducible refine RowKit.Below.ext ?_ ?_ _) | (with_reducible refine Below.alloc ?_ ?_ _) | (with_reducible refine Below.drew ?_) | (with_reducible refine RowKit.Below.drawnN ?_ _) | (with_reducible refine Below.setCell ?_ ?_ _) | (exact (by first | (simp; done) | (simp; omega) | omega)))) rfl o, fun o => kept_cells 70 (by repeat (first | (with_reducible exact Below.refl _ _) | (with_reducible assumption) | (with_reducible refine RowKit.Below.ext ?_ ?_ _) | (with_reducible refine Below.alloc ?_ ?_ _) | (with_reducible refine Below.drew ?_) | (with_reducible refine RowKit.Below.drawnN ?_ _) | (with_reducible refine Below.setCell ?_ ?_ _) | (exact (by first | (simp; done) | (simp; omega) | omega)))) (by simp) o, fun o => kept_cells 70 (by repeat (first | (with_reducible exact Below.refl _ _) | (with_reducible assumption) | (with_reducible refine RowKit.Below.ext ?_ ?_ _) | (with_reducible refine Below.alloc ?_ ?_ _) | (with_reducible refine Below.drew ?_) | (with_reducible refine RowKit.Below.drawnN ?_ _) | (with_reducible refine Below.setCell ?_ ?_ _) | (exact (by first | (simp; done) | (simp; omega) | omega)))) (by simp) o⟩ ?_
  intro W ⟨hB, hcr, hcs, hcx⟩
  have QR := Lib.hid hcr
  have QS := Lib.hid hcs
  have QX := Lib.hid hcx
  have QB := Lib.hid hB
  clear hcr hcs hcx hB
  refine (filters_any _).mono ?_
  rintro e W1 ⟨rfl, hB1, hF⟩
  have QB1 := Lib.hid (QB.out.trans (hB1.mono QB.out.size))
  have QR1 := Lib.hid (fun o v (h : r.cells[o]? = some v) => cell_of_below hB1 ((QR.out o).trans h))
  have QS1 := Lib.hid (fun o v (h : s.cells[o]? = some v) => cell_of_below hB1 ((QS.out o).trans h))
  have QX1 := Lib.hid (fun o v (h : X.cells[o]? = some v) => cell_of_below hB1 ((QX.out o).trans h))
  have QF := Lib.hid hF
  clear QR QS QX QB hB1 hF
  generalize W.heap.size = bf at QF ⊢
  go_wp2
  go_loopg [14] 6 (fun gg v14 wr => ∃ k : Nat, k ≤ 6 ∧ 6 - k ≤ gg ∧ v14 = .int .i64 k ∧ Hid (Below W1.heap.size W1 wr) ∧ Hid (∀ j, j < k → L[j]? = some true))
  case atStart => exact ⟨0, by omega, by omega, rfl, Below.refl _ _, fun j hj => absurd hj (Nat.not_lt_zero _)⟩
  case round =>
    obtain ⟨k, hk1, hk2, rfl, HBu, HA⟩ := hrel
    by_cases hlt : k < 6
    · have hltz : (k : Int) < 6 := by omega
      obtain ⟨fn, b, hf1, hf2, eg, hcall⟩ := FI.out k hlt
      have hcf := cell_of_below HBu.out ((QF.out k).trans hf1)
      have HC := Lib.hid hcall
      have HBw := Lib.hid (QB1.out.trans (HBu.out.mono QB1.out.size))
      have HF2 := Lib.hid hf2
      have HHK := Lib.hid hk2
      clear hcall hf1 hf2 hk2
      have c0 := cell_of_below HBu.out (QR1.out 0 _ rfl)
      have c1 := cell_of_below HBu.out (QR1.out 1 _ rfl)
      have c2 := cell_of_below HBu.out (QR1.out 2 _ rfl)
      have c3 := cell_of_below HBu.out (QR1.out 3 _ rfl)
      have c4 := cell_of_below HBu.out (QR1.out 4 _ rfl)
      have c5 := cell_of_below HBu.out (QR1.out 5 _ rfl)
      have c6 := cell_of_below HBu.out (QR1.out 6 _ rfl)
      have c7 := cell_of_below HBu.out (QR1.out 7 _ rfl)
      have c8 := cell_of_below HBu.out (QR1.out 8 _ rfl)
      have c9 := cell_of_below HBu.out (QR1.out 9 _ rfl)
      have c10 := cell_of_below HBu.out (QR1.out 10 _ rfl)
      have c11 := cell_of_below HBu.out (QR1.out 11 _ rfl)
      have c12 := cell_of_below HBu.out (QR1.out 12 _ rfl)
      have c13 := cell_of_below HBu.out (QR1.out 13 _ rfl)
      have d0 := cell_of_below HBu.out (QX1.out 0 _ rfl)
      have d1 := cell_of_below HBu.out (QX1.out 1 _ rfl)
      have d2 := cell_of_below HBu.out (QX1.out 2 _ rfl)
      have d3 := cell_of_below HBu.out (QX1.out 3 _ rfl)
      have d4 := cell_of_below HBu.out (QX1.out 4 _ rfl)
      have d5 := cell_of_below HBu.out (QX1.out 5 _ rfl)
      have d6 := cell_of_below HBu.out (QX1.out 6 _ rfl)
      have d7 := cell_of_below HBu.out (QX1.out 7 _ rfl)
      have e0 := cell_of_below HBu.out (QS1.out 0 _ rfl)
      have e1 := cell_of_below HBu.out (QS1.out 1 _ rfl)
      have e2 := cell_of_below HBu.out (QS1.out 2 _ rfl)
      have e3 := cell_of_below HBu.out (QS1.out 3 _ rfl)
      have e4 := cell_of_below HBu.out (QS1.out 4 _ rfl)
      have e5 := cell_of_below HBu.out (QS1.out 5 _ rfl)
      have e6 := cell_of_below HBu.out (QS1.out 6 _ rfl)
      have e7 := cell_of_below HBu.out (QS1.out 7 _ rfl)
      cases b
      · go_wp2_with (go_at_fn fn; refine (HC.out _ (HR.out.below HBw.out)).mono ?_; rintro e w' ⟨rfl, hb1⟩; obtain ⟨y, rfl⟩ := hb1.toExt; clear hb1)
        go_ret
        exact ⟨by rw [KN.out k HF2.out]; rfl, HBw.out.ext HBw.out.size _⟩
      · go_wp2_with (go_at_fn fn; refine (HC.out _ (HR.out.below HBw.out)).mono ?_; rintro e w' ⟨rfl, hb1⟩; obtain ⟨y, rfl⟩ := hb1.toExt; clear hb1)
        go_roundg (6 - (k + 1))
        case measure => have := HHK.out; omega
        case rel =>
          refine ⟨k + 1, by omega, by omega, by go_num, HBu.out.ext HBu.out.size _, (show Hid _ from fun j hj => ?_)⟩
          by_cases e : j = k
          · rw [e]; exact HF2.out
          · exact HA.out j (by omega)
    · have hltz : ¬ (k : Int) < 6 := by omega
      have HK := Lib.hid (show k = 6 by omega)
      go_wp2
      go_ret
      exact ⟨by rw [KY.out (fun j hj => HA.out j (by rw [HK.out]; omega))]; rfl, QB1.out.trans (HBu.out.mono QB1.out.size)⟩
end Go.Proofs.YthilkphnjffnhaaGreat
/- The walks of Day, Period and Times. -/
namespace Go.Proofs.YthilkphnjffnhaaGreat
open Go.RowKit
set_option linter.unusedVariables false
set_option linter.unusedSimpArgs false
/-- a local time that is at least some days after the beginning -/
def inP (t : Int) : Prop := -62121600000 ≤ t ∧ t < 253402300800
theorem inP.loc {t : Int} (h : inP t) : locP t := by unfold inP locP at *; omega

set_option maxHeartbeats 4000000 in
theorem day_no (r : Rc) (t d : Int) (w : World) (hr : r.In w) (hv : validB r = false) :
    Calls Tryz.prog 13 #[r.val, .int .i64 t, .int .i64 d] w fun e w' => e = .returned (.tuple #[.bool false, .int .i64 1]) ∧ Below w.heap.size w w' := by
  have C := Lib.hid (fun w (h : r.In w) => given_no r t w h hv)
  have HR := Lib.hid hr
  clear hr hv
  go_enter Tryz.func13, Tryz.ntmps13
  go_wp2_with fail
  refine (C.out _ (HR.out.below (by repeat (first | (with_reducible exact Below.refl _ _) | (with_reducible assumption) | (with_reducible refine RowKit.Below.ext ?_ ?_ _) | (with_reducible refine Below.alloc ?_ ?_ _) | (with_reducible refine Below.drew ?_) | (with_reducible refine RowKit.Below.drawnN ?_ _) | (with_reducible refine Below.setCell ?_ ?_ _) | (exact (by first | (simp; done) | (simp; omega) | omega)))))).mono ?_
  rintro e w1 ⟨rfl, hb1⟩; obtain ⟨x, rfl⟩ := hb1.toExt; clear hb1
  go_wp2
  go_ret2
  exact ⟨rfl, (by repeat (first | (with_reducible exact Below.refl _ _) | (with_reducible assumption) | (with_reducible refine RowKit.Below.ext ?_ ?_ _) | (with_reducible refine Below.alloc ?_ ?_ _) | (with_reducible refine Below.drew ?_) | (with_reducible refine RowKit.Below.drawnN ?_ _) | (with_reducible refine Below.setCell ?_ ?_ _) | (exact (by first | (simp; done) | (simp; omega) | omega))))⟩

set_option maxHeartbeats 4000000 in
theorem rday_yes (r : Rc) (t d : Int) (w : World) (hr : r.In w) (hv : validB r = true) (ht : inP t) (h1 : -719000 ≤ d) (h2 : d < 2932897) :
    Calls Tryz.prog 13 #[r.val, .int .i64 t, .int .i64 d] w fun e w' => e = .returned (.tuple #[.bool (passP r (diP (t / 86400)) d), .int .i64 0]) ∧ Below w.heap.size w w' := by
  have hk := Rc.Ok.of hv
  obtain ⟨t1, t2⟩ := ht
  have C := Lib.hid (fun w (h : r.In w) => given_yes r t w h hv (inP.loc ⟨t1, t2⟩))
  have CF := Lib.hid (fun w => floor_any t 86400 w (by omega) (by omega) (by omega) (by omega))
  have CD := Lib.hid (fun w => dateof_any (t / 86400) w (by omega) (by omega))
  have CP := Lib.hid (fun w (h : r.In w) => passes_any r (diP (t / 86400)) d w h (diP_ok _ (by omega) (by omega)) hk.s1 hk.s7 h1 h2)
  have HR := Lib.hid hr
  have g1 : ¬ d < -719162 := by omega
  clear hr hv hk t1 t2
  generalize passP r (diP (t / 86400)) d = b at *
  generalize diP (t / 86400) = X at *
  have XV : X.v = .agg X.cells := rfl
  rw [XV] at CD CP
  clear XV
  go_enter Tryz.func13, Tryz.ntmps13
  go_wp2_with fail
  refine (C.out _ (HR.out.below (by repeat (first | (with_reducible exact Below.refl _ _) | (with_reducible assumption) | (with_reducible refine RowKit.Below.ext ?_ ?_ _) | (with_reducible refine Below.alloc ?_ ?_ _) | (with_reducible refine Below.drew ?_) | (with_reducible refine RowKit.Below.drawnN ?_ _) | (with_reducible refine Below.setCell ?_ ?_ _) | (exact (by first | (simp; done) | (simp; omega) | omega)))))).mono ?_
  rintro e w1 ⟨rfl, hb1⟩; obtain ⟨x, rfl⟩ := hb1.toExt; clear hb1
  go_wp2_with refine wp_region_calm (by kernel_rfl) (by kernel_rfl) ?_
  repeat (go_big_quiet_step (first | (with_reducible exact Calls.calm_of_drew (CF.out _)) | (with_reducible exact Calls.calm_of (CD.out _)) | (with_reducible exact Calls.calm_of (CP.out _ (HR.out.below (by repeat (first | (with_reducible exact Below.refl _ _) | (with_reducible assumption) | (with_reducible refine RowKit.Below.ext ?_ ?_ _) | (with_reducible refine Below.alloc ?_ ?_ _) | (with_reducible refine Below.drew ?_) | (with_reducible refine RowKit.Below.drawnN ?_ _) | (with_reducible refine Below.setCell ?_ ?_ _) | (exact (by first | (simp; done) | (simp; omega) | omega)))))))))
  refine wpQuiet_nil ?_
  rintro _ ⟨xx, rfl⟩
  go_wp2
  go_ret2
  exact ⟨rfl, (by repeat (first | (with_reducible exact Below.refl _ _) | (with_reducible assumption) | (with_reducible refine RowKit.Below.ext ?_ ?_ _) | (with_reducible refine Below.alloc ?_ ?_ _) | (with_reducible refine Below.drew ?_) | (with_reducible refine RowKit.Below.drawnN ?_ _) | (with_reducible refine Below.setCell ?_ ?_ _) | (exact (by first | (simp; done) | (simp; omega) | omega))))⟩

set_option maxHeartbeats 4000000 in
theorem period_yes (r : Rc) (t l : Int) (w : World) (hr : r.In w) (hv : validB r = true) (ht : inP t) (hl : inP l) (hb1 : -1000000000000 ≤ numP r l) (hb2 : numP r l ≤ 1000000000000) (hb3 : -1000000000000 ≤ numP r t) (hb4 : numP r t ≤ 1000000000000) :
    Calls Tryz.prog 11 #[r.val, .int .i64 t, .int .i64 l] w fun e w' => e = .returned (.tuple #[.int .i64 (numP r l - numP r t), .int .i64 0]) ∧ Below w.heap.size w w' := by
  have hk := Rc.Ok.of hv
  obtain ⟨t1, t2⟩ := ht
  obtain ⟨l1, l2⟩ := hl
  have C := Lib.hid (fun w (h : r.In w) => given_yes r t w h hv (inP.loc ⟨t1, t2⟩))
  have CL := Lib.hid (fun w => local_yes l w (inP.loc ⟨l1, l2⟩))
  have C1 := Lib.hid (fun w => number_any r l w hk.f1 hk.f5 hk.s1 hk.s7 l1 l2)
  have C2 := Lib.hid (fun w => number_any r t w hk.f1 hk.f5 hk.s1 hk.s7 t1 t2)
  have HR := Lib.hid hr
  clear hr hv hk t1 t2 l1 l2
  generalize numP r l = N at *
  generalize numP r t = M at *
  go_enter Tryz.func11, Tryz.ntmps11
  go_wp2_with fail
  refine (C.out _ (HR.out.below (by repeat (first | (with_reducible exact Below.refl _ _) | (with_reducible assumption) | (with_reducible refine RowKit.Below.ext ?_ ?_ _) | (with_reducible refine Below.alloc ?_ ?_ _) | (with_reducible refine Below.drew ?_) | (with_reducible refine RowKit.Below.drawnN ?_ _) | (with_reducible refine Below.setCell ?_ ?_ _) | (exact (by first | (simp; done) | (simp; omega) | omega)))))).mono ?_
  rintro e w1 ⟨rfl, hb1⟩; obtain ⟨x, rfl⟩ := hb1.toExt; clear hb1
  go_wp2_with fail
  refine (CL.out _).mono ?_
  rintro e w1 ⟨rfl, rfl⟩
  go_wp2_with refine wp_region_calm (by kernel_rfl) (by kernel_rfl) ?_
  repeat (go_big_quiet_step (first | (with_reducible exact Calls.calm_of (C1.out _)) | (with_reducible exact Calls.calm_of (C2.out _))))
  refine wpQuiet_nil ?_
  rintro _ ⟨xx, rfl⟩
  go_wp2
  go_ret2
  exact ⟨rfl, (by repeat (first | (with_reducible exact Below.refl _ _) | (with_reducible assumption) | (with_reducible refine RowKit.Below.ext ?_ ?_ _) | (with_reducible refine Below.alloc ?_ ?_ _) | (with_reducible refine Below.drew ?_) | (with_reducible refine RowKit.Below.drawnN ?_ _) | (with_reducible refine Below.setCell ?_ ?_ _) | (exact (by first | (simp; done) | (simp; omega) | omega))))⟩

/-- a list and no error -/
def RetT (L : List Int) (w : World) : Ending → World → Prop := fun e w' => ∃ so : SlI, e = .returned (.tuple #[so.v, .int .i64 0]) ∧ so.l = L ∧ so.In w' ∧ Below w.heap.size w w'

set_option maxHeartbeats 4000000 in
theorem rtimes_yes (r : Rc) (t : Int) (w : World) (hr : r.In w) (hv : validB r = true) (ht : inP t) :
    Calls Tryz.prog 62 #[r.val, .int .i64 t] w (RetT (timesP r.f r.ho.l r.mi.l r.se.l (t % 86400)) w) := by
  have C := Lib.hid (fun w (h : r.In w) => given_yes r t w h hv ht.loc)
  have CT := Lib.hid (fun w (h : r.In w) => times_ok r t w h (Rc.Ok.of hv) ht.loc)
  have HR := Lib.hid hr
  clear hr hv ht
  generalize timesP r.f r.ho.l r.mi.l r.se.l (t % 86400) = L at *
  go_enter Tryz.func62, Tryz.ntmps62
  go_wp2_with fail
  refine (C.out _ (HR.out.below (by repeat (first | (with_reducible exact Below.refl _ _) | (with_reducible assumption) | (with_reducible refine RowKit.Below.ext ?_ ?_ _) | (with_reducible refine Below.alloc ?_ ?_ _) | (with_reducible refine Below.drew ?_) | (with_reducible refine RowKit.Below.drawnN ?_ _) | (with_reducible refine Below.setCell ?_ ?_ _) | (exact (by first | (simp; done) | (simp; omega) | omega)))))).mono ?_
  rintro e w1 ⟨rfl, hb1⟩; obtain ⟨x, rfl⟩ := hb1.toExt; clear hb1
  go_wp2_with fail
  refine (CT.out _ (HR.out.below (by repeat (first | (with_reducible exact Below.refl _ _) | (with_reducible assumption) | (with_reducible refine RowKit.Below.ext ?_ ?_ _) | (with_reducible refine Below.alloc ?_ ?_ _) | (with_reducible refine Below.drew ?_) | (with_reducible refine RowKit.Below.drawnN ?_ _) | (with_reducible refine Below.setCell ?_ ?_ _) | (exact (by first | (simp; done) | (simp; omega) | omega)))))).mono ?_
  rintro e w2 ⟨so, rfl, h1, h2, hb2⟩
  obtain ⟨y, rfl⟩ := hb2.toExt
  clear hb2
  have Q2 := Lib.hid h2
  clear h2
  obtain ⟨A, c, l⟩ := so
  dsimp only at h1
  subst h1
  go_wp2
  go_ret2
  exact ⟨⟨A, c, l⟩, rfl, rfl, Q2.out, (by repeat (first | (with_reducible exact Below.refl _ _) | (with_reducible assumption) | (with_reducible refine RowKit.Below.ext ?_ ?_ _) | (with_reducible refine Below.alloc ?_ ?_ _) | (with_reducible refine Below.drew ?_) | (with_reducible refine RowKit.Below.drawnN ?_ _) | (with_reducible refine Below.setCell ?_ ?_ _) | (exact (by first | (simp; done) | (simp; omega) | omega))))⟩
end Go.Proofs.YthilkphnjffnhaaGreat
