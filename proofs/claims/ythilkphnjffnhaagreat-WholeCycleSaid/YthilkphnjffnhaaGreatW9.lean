/- The walk of Matches: the rest. -/
import Derived.Test.YthilkphnjffnhaaGreatW75
import Derived.Deep.RegionHeld3
namespace Go.Proofs.YthilkphnjffnhaaGreat
open Go.RowKit
set_option linter.unusedVariables false
set_option linter.unusedSimpArgs false
set_option maxRecDepth 100000 in
set_option maxHeartbeats 16000000 in
theorem matches_l2 (r : Rc) (t l : Int) (w : World) (hr : r.In w) (hv : validB r = true) (ht : inP t) (hl : inP l) (hl7 : -62087040000 ≤ l) (he : earlyP r t l = false) (hany : ((timesP r.f r.ho.l r.mi.l r.se.l (t % 86400)).any fun y => l % 86400 == y) = true) (hpb : passP r (diP (t / 86400)) (l / 86400) = false) :
    Calls Tryz.prog 10 #[r.val, .int .i64 t, .int .i64 l] w fun e w' => e = .returned (.tuple #[.bool (matchP r t l), .int .i64 0]) ∧ Below w.heap.size w w' := by
  have hk := Rc.Ok.of hv
  have key : matchP r t l = if onP r t l then (if r.po.l.length = 0 then true else cntP r.po.l (placeP r t l).1 (placeP r t l).2) else false := by unfold matchP; rw [he]; rfl
  have CG := Lib.hid (fun w (h : r.In w) => given_yes r t w h hv ht.loc)
  have CL := Lib.hid (fun w => local_yes l w hl.loc)
  have CT := Lib.hid (fun w (h : r.In w) => times_okF r t w h hk ht.loc)
  have CPL := Lib.hid (fun w (h : r.In w) => place_any r t l w h hk ht hl hl7)
  have hpl := placeP_bd r t l hk hl.1 hl.2
  have CC := Lib.hid (fun w (h : r.po.In w) => counted_any r.po (placeP r t l).1 (placeP r t l).2 w h (by omega) (by omega) (by omega) (by omega))
  obtain ⟨t1, t2⟩ := ht
  obtain ⟨l1, l2⟩ := hl
  have n1 := numP_bd r l hk.f1 hk.f5 hk.s1 hk.s7 l1 l2
  have n2 := numP_bd r t hk.f1 hk.f5 hk.s1 hk.s7 t1 t2
  have C1 := Lib.hid (fun w => number_any r l w hk.f1 hk.f5 hk.s1 hk.s7 l1 l2)
  have C2 := Lib.hid (fun w => number_any r t w hk.f1 hk.f5 hk.s1 hk.s7 t1 t2)
  have CM := Lib.hid (fun w => mod_any l 86400 w (by omega) (by omega) (by omega) (by omega))
  have CF := Lib.hid (fun w => floor_any t 86400 w (by omega) (by omega) (by omega) (by omega))
  have CD := Lib.hid (fun w => dateof_any (t / 86400) w (by omega) (by omega))
  have CP := Lib.hid (fun w (h : r.In w) => passes_any r (diP (t / 86400)) (l / 86400) w h (diP_ok _ (by omega) (by omega)) hk.s1 hk.s7 (by omega) (by omega))
  have i1 := hk.i1
  have i2 := hk.i2
  have HR := Lib.hid hr
  unfold earlyP at he
  unfold onP at key
  rw [key]
  clear hr hv hk key hpl
  generalize numP r l = N at *
  generalize numP r t = M at *
  generalize passP r (diP (t / 86400)) (l / 86400) = pb at *
  generalize diP (t / 86400) = X at *
  generalize placeP r t l = pl at *
  generalize cntP r.po.l pl.1 pl.2 = cb at *
  have XV : X.v = .agg X.cells := rfl
  rw [XV] at CD CP
  clear XV
  generalize timesP r.f r.ho.l r.mi.l r.se.l (t % 86400) = L at *
  simp only [Bool.or_eq_false_iff, decide_eq_false_iff_not] at he
  obtain ⟨a1, a2, a3⟩ := he
  have d1 : decide (l < t) = false := decide_eq_false a1
  have h4 : ((N - M).tmod r.iv != 0) = false := by simpa using a3
  have i0 : r.iv ≠ 0 := by omega
  have hu : (r.un != 0) = false ∨ (r.un != 0) = true ∧ decide (r.un < l) = false := by
    by_cases u0 : r.un = 0
    · exact .inl (by simp [u0])
    · exact .inr ⟨by simp [u0], decide_eq_false (fun h => a2 ⟨u0, h⟩)⟩
  clear a1 a2 a3
  rw [hany, Bool.true_and, hpb, if_neg (by simp)]
  rw [hpb] at CP
  clear hpb
  rcases hu with u1 | ⟨u1, d2⟩
  all_goals
    go_enter Tryz.func10, Tryz.ntmps10
    go_wp2_with fail
    refine (CG.out _ (HR.out.below (by repeat (first | (with_reducible exact Below.refl _ _) | (with_reducible assumption) | (with_reducible refine RowKit.Below.ext ?_ ?_ _) | (with_reducible refine Below.alloc ?_ ?_ _) | (with_reducible refine Below.drew ?_) | (with_reducible refine RowKit.Below.drawnN ?_ _) | (with_reducible refine Below.setCell ?_ ?_ _) | (exact (by first | (simp; done) | (simp; omega) | omega)))))).mono ?_
    rintro e w1 ⟨rfl, hb1⟩; obtain ⟨x, rfl⟩ := hb1.toExt; clear hb1
    go_wp2_with fail
    refine (CL.out _).mono ?_
    rintro e w1 ⟨rfl, rfl⟩
    go_wp2_with fail
    refine (floor_any l 86400 _ (by omega) (by omega) (by omega) (by omega)).mono ?_
    rintro e w1 ⟨rfl, nd, rfl⟩
    go_wp2_with refine wp_region_calm (by kernel_rfl) (by kernel_rfl) ?_
    repeat (go_big_quiet_step (first | (with_reducible exact Calls.calm_of (C1.out _)) | (with_reducible exact Calls.calm_of (C2.out _))))
    refine wpQuiet_nil ?_
    rintro _ ⟨xx, rfl⟩
    clear d1 h4 C1 C2 n1 n2 i1 i2 i0 u1
    try clear d2
    go_wp2_with fail
    refine at_world (fun W => Below w.heap.size w W ∧ ∀ o, W.cell? ⟨w.heap.size, o, none⟩ = r.cells[o]?) ⟨(by repeat (first | (with_reducible exact Below.refl _ _) | (with_reducible assumption) | (with_reducible refine RowKit.Below.ext ?_ ?_ _) | (with_reducible refine Below.alloc ?_ ?_ _) | (with_reducible refine Below.drew ?_) | (with_reducible refine RowKit.Below.drawnN ?_ _) | (with_reducible refine Below.setCell ?_ ?_ _) | (exact (by first | (simp; done) | (simp; omega) | omega)))), fun o => kept_cells 25 (by repeat (first | (with_reducible exact Below.refl _ _) | (with_reducible assumption) | (with_reducible refine RowKit.Below.ext ?_ ?_ _) | (with_reducible refine Below.alloc ?_ ?_ _) | (with_reducible refine Below.drew ?_) | (with_reducible refine RowKit.Below.drawnN ?_ _) | (with_reducible refine Below.setCell ?_ ?_ _) | (exact (by first | (simp; done) | (simp; omega) | omega)))) rfl o⟩ ?_
    intro W ⟨hB, hcw⟩
    have QCW := Lib.hid hcw
    clear hcw
    have hBs := hB.size
    have c0 := (QCW.out 0).trans (rfl : _ = some (Value.int .i64 r.f))
    have c1 := (QCW.out 1).trans (rfl : _ = some (Value.int .i64 r.iv))
    have c2 := (QCW.out 2).trans (rfl : _ = some (Value.int .i64 r.ct))
    have c3 := (QCW.out 3).trans (rfl : _ = some (Value.int .i64 r.un))
    have c4 := (QCW.out 4).trans (rfl : _ = some r.mo.v)
    have c5 := (QCW.out 5).trans (rfl : _ = some r.md.v)
    have c6 := (QCW.out 6).trans (rfl : _ = some r.yd.v)
    have c7 := (QCW.out 7).trans (rfl : _ = some r.wk.v)
    have c8 := (QCW.out 8).trans (rfl : _ = some r.dy.v)
    have c9 := (QCW.out 9).trans (rfl : _ = some r.ho.v)
    have c10 := (QCW.out 10).trans (rfl : _ = some r.mi.v)
    have c11 := (QCW.out 11).trans (rfl : _ = some r.se.v)
    have c12 := (QCW.out 12).trans (rfl : _ = some r.po.v)
    have c13 := (QCW.out 13).trans (rfl : _ = some (Value.int .i64 r.ws))
    clear QCW
    go_region_held3 (fun w' => w'.cell? ⟨w.heap.size, 0, none⟩ = some (.int .i64 r.f) ∧ w'.cell? ⟨w.heap.size, 1, none⟩ = some (.int .i64 r.iv) ∧ w'.cell? ⟨w.heap.size, 2, none⟩ = some (.int .i64 r.ct) ∧ w'.cell? ⟨w.heap.size, 3, none⟩ = some (.int .i64 r.un) ∧ w'.cell? ⟨w.heap.size, 4, none⟩ = some (r.mo.v) ∧ w'.cell? ⟨w.heap.size, 5, none⟩ = some (r.md.v) ∧ w'.cell? ⟨w.heap.size, 6, none⟩ = some (r.yd.v) ∧ w'.cell? ⟨w.heap.size, 7, none⟩ = some (r.wk.v) ∧ w'.cell? ⟨w.heap.size, 8, none⟩ = some (r.dy.v) ∧ w'.cell? ⟨w.heap.size, 9, none⟩ = some (r.ho.v) ∧ w'.cell? ⟨w.heap.size, 10, none⟩ = some (r.mi.v) ∧ w'.cell? ⟨w.heap.size, 11, none⟩ = some (r.se.v) ∧ w'.cell? ⟨w.heap.size, 12, none⟩ = some (r.po.v) ∧ w'.cell? ⟨w.heap.size, 13, none⟩ = some (.int .i64 r.ws))
      (first | (refine ⟨cell_of_below (by repeat (first | (with_reducible exact Below.refl _ _) | (with_reducible assumption) | (with_reducible refine RowKit.Below.ext ?_ ?_ _) | (with_reducible refine Below.alloc ?_ ?_ _) | (with_reducible refine Below.drew ?_) | (with_reducible refine RowKit.Below.drawnN ?_ _) | (with_reducible refine Below.setCell ?_ ?_ _) | (exact (by first | (simp; done) | (simp; omega) | omega)))) c0, cell_of_below (by repeat (first | (with_reducible exact Below.refl _ _) | (with_reducible assumption) | (with_reducible refine RowKit.Below.ext ?_ ?_ _) | (with_reducible refine Below.alloc ?_ ?_ _) | (with_reducible refine Below.drew ?_) | (with_reducible refine RowKit.Below.drawnN ?_ _) | (with_reducible refine Below.setCell ?_ ?_ _) | (exact (by first | (simp; done) | (simp; omega) | omega)))) c1, cell_of_below (by repeat (first | (with_reducible exact Below.refl _ _) | (with_reducible assumption) | (with_reducible refine RowKit.Below.ext ?_ ?_ _) | (with_reducible refine Below.alloc ?_ ?_ _) | (with_reducible refine Below.drew ?_) | (with_reducible refine RowKit.Below.drawnN ?_ _) | (with_reducible refine Below.setCell ?_ ?_ _) | (exact (by first | (simp; done) | (simp; omega) | omega)))) c2, cell_of_below (by repeat (first | (with_reducible exact Below.refl _ _) | (with_reducible assumption) | (with_reducible refine RowKit.Below.ext ?_ ?_ _) | (with_reducible refine Below.alloc ?_ ?_ _) | (with_reducible refine Below.drew ?_) | (with_reducible refine RowKit.Below.drawnN ?_ _) | (with_reducible refine Below.setCell ?_ ?_ _) | (exact (by first | (simp; done) | (simp; omega) | omega)))) c3, cell_of_below (by repeat (first | (with_reducible exact Below.refl _ _) | (with_reducible assumption) | (with_reducible refine RowKit.Below.ext ?_ ?_ _) | (with_reducible refine Below.alloc ?_ ?_ _) | (with_reducible refine Below.drew ?_) | (with_reducible refine RowKit.Below.drawnN ?_ _) | (with_reducible refine Below.setCell ?_ ?_ _) | (exact (by first | (simp; done) | (simp; omega) | omega)))) c4, cell_of_below (by repeat (first | (with_reducible exact Below.refl _ _) | (with_reducible assumption) | (with_reducible refine RowKit.Below.ext ?_ ?_ _) | (with_reducible refine Below.alloc ?_ ?_ _) | (with_reducible refine Below.drew ?_) | (with_reducible refine RowKit.Below.drawnN ?_ _) | (with_reducible refine Below.setCell ?_ ?_ _) | (exact (by first | (simp; done) | (simp; omega) | omega)))) c5, cell_of_below (by repeat (first | (with_reducible exact Below.refl _ _) | (with_reducible assumption) | (with_reducible refine RowKit.Below.ext ?_ ?_ _) | (with_reducible refine Below.alloc ?_ ?_ _) | (with_reducible refine Below.drew ?_) | (with_reducible refine RowKit.Below.drawnN ?_ _) | (with_reducible refine Below.setCell ?_ ?_ _) | (exact (by first | (simp; done) | (simp; omega) | omega)))) c6, cell_of_below (by repeat (first | (with_reducible exact Below.refl _ _) | (with_reducible assumption) | (with_reducible refine RowKit.Below.ext ?_ ?_ _) | (with_reducible refine Below.alloc ?_ ?_ _) | (with_reducible refine Below.drew ?_) | (with_reducible refine RowKit.Below.drawnN ?_ _) | (with_reducible refine Below.setCell ?_ ?_ _) | (exact (by first | (simp; done) | (simp; omega) | omega)))) c7, cell_of_below (by repeat (first | (with_reducible exact Below.refl _ _) | (with_reducible assumption) | (with_reducible refine RowKit.Below.ext ?_ ?_ _) | (with_reducible refine Below.alloc ?_ ?_ _) | (with_reducible refine Below.drew ?_) | (with_reducible refine RowKit.Below.drawnN ?_ _) | (with_reducible refine Below.setCell ?_ ?_ _) | (exact (by first | (simp; done) | (simp; omega) | omega)))) c8, cell_of_below (by repeat (first | (with_reducible exact Below.refl _ _) | (with_reducible assumption) | (with_reducible refine RowKit.Below.ext ?_ ?_ _) | (with_reducible refine Below.alloc ?_ ?_ _) | (with_reducible refine Below.drew ?_) | (with_reducible refine RowKit.Below.drawnN ?_ _) | (with_reducible refine Below.setCell ?_ ?_ _) | (exact (by first | (simp; done) | (simp; omega) | omega)))) c9, cell_of_below (by repeat (first | (with_reducible exact Below.refl _ _) | (with_reducible assumption) | (with_reducible refine RowKit.Below.ext ?_ ?_ _) | (with_reducible refine Below.alloc ?_ ?_ _) | (with_reducible refine Below.drew ?_) | (with_reducible refine RowKit.Below.drawnN ?_ _) | (with_reducible refine Below.setCell ?_ ?_ _) | (exact (by first | (simp; done) | (simp; omega) | omega)))) c10, cell_of_below (by repeat (first | (with_reducible exact Below.refl _ _) | (with_reducible assumption) | (with_reducible refine RowKit.Below.ext ?_ ?_ _) | (with_reducible refine Below.alloc ?_ ?_ _) | (with_reducible refine Below.drew ?_) | (with_reducible refine RowKit.Below.drawnN ?_ _) | (with_reducible refine Below.setCell ?_ ?_ _) | (exact (by first | (simp; done) | (simp; omega) | omega)))) c11, cell_of_below (by repeat (first | (with_reducible exact Below.refl _ _) | (with_reducible assumption) | (with_reducible refine RowKit.Below.ext ?_ ?_ _) | (with_reducible refine Below.alloc ?_ ?_ _) | (with_reducible refine Below.drew ?_) | (with_reducible refine RowKit.Below.drawnN ?_ _) | (with_reducible refine Below.setCell ?_ ?_ _) | (exact (by first | (simp; done) | (simp; omega) | omega)))) c12, cell_of_below (by repeat (first | (with_reducible exact Below.refl _ _) | (with_reducible assumption) | (with_reducible refine RowKit.Below.ext ?_ ?_ _) | (with_reducible refine Below.alloc ?_ ?_ _) | (with_reducible refine Below.drew ?_) | (with_reducible refine RowKit.Below.drawnN ?_ _) | (with_reducible refine Below.setCell ?_ ?_ _) | (exact (by first | (simp; done) | (simp; omega) | omega)))) c13⟩) | go_keep)
      (first
        | (go_at_call 26; (with_reducible refine Calls.mono (CT.out _ ?hq) ?_); (case hq => exact HR.out.below (by repeat (first | (with_reducible exact Below.refl _ _) | (with_reducible assumption) | (with_reducible refine RowKit.Below.ext ?_ ?_ _) | (with_reducible refine Below.alloc ?_ ?_ _) | (with_reducible refine Below.drew ?_) | (with_reducible refine RowKit.Below.drawnN ?_ _) | (with_reducible refine Below.setCell ?_ ?_ _) | (exact (by first | (simp; done) | (simp; omega) | omega))))); rintro e w1 ⟨⟨sA, sc, sl⟩, rfl, hs1, hs2, hb1, hs3⟩; dsimp only at hs1; subst hs1; obtain ⟨xt, rfl⟩ := hb1.toExt; have HS := Lib.hid hs2; clear hb1 hs2 hs3)
        | (go_at_call 30; (with_reducible refine Calls.mono (CM.out _) ?_); rintro e w1 ⟨rfl, nm, rfl⟩)
        | (go_at_call 29; (with_reducible refine Calls.mono (cont_b (l % 86400) ⟨sA, sc, sl⟩ _ _ ?hq3 hany) ?_); (case hq3 => exact HS.out); rintro e w1 ⟨rfl, rfl⟩)
        | (go_at_call 12; (with_reducible refine Calls.mono (CF.out _) ?_); rintro e w1 ⟨rfl, nf, rfl⟩)
        | (go_at_call 32; (with_reducible refine Calls.mono (CD.out _) ?_); rintro e w1 ⟨rfl, hb1⟩; obtain ⟨xd, rfl⟩ := hb1.toExt; clear hb1)
        | (go_at_call 31; (with_reducible refine Calls.mono (CP.out _ ?hq2) ?_); (case hq2 => exact HR.out.below (by repeat (first | (with_reducible exact Below.refl _ _) | (with_reducible assumption) | (with_reducible refine RowKit.Below.ext ?_ ?_ _) | (with_reducible refine Below.alloc ?_ ?_ _) | (with_reducible refine Below.drew ?_) | (with_reducible refine RowKit.Below.drawnN ?_ _) | (with_reducible refine Below.setCell ?_ ?_ _) | (exact (by first | (simp; done) | (simp; omega) | omega))))); rintro e w1 ⟨rfl, hb1⟩; obtain ⟨xp, rfl⟩ := hb1.toExt; clear hb1))
    have hBU : Below w.heap.size w ((((W.ext xt).drewN (nm + nf)).ext xd).ext xp) := (by repeat (first | (with_reducible exact Below.refl _ _) | (with_reducible assumption) | (with_reducible refine RowKit.Below.ext ?_ ?_ _) | (with_reducible refine Below.alloc ?_ ?_ _) | (with_reducible refine Below.drew ?_) | (with_reducible refine RowKit.Below.drawnN ?_ _) | (with_reducible refine Below.setCell ?_ ?_ _) | (exact (by first | (simp; done) | (simp; omega) | omega))))
    generalize ((((W.ext xt).drewN (nm + nf)).ext xd).ext xp) = U at hBU ⊢
    clear c0 c1 c2 c3 c4 c5 c6 c7 c8 c9 c10 c11 c12 c13 hany
    go_wp2
    go_ret2
    exact ⟨rfl, hBU⟩

end Go.Proofs.YthilkphnjffnhaaGreat
