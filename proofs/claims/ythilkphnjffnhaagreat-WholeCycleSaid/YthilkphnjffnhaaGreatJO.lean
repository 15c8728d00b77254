/- The walk of expand.repeats, the rest, and of expand.cycle. -/
import Derived.Test.YthilkphnjffnhaaGreatJN
namespace Go.Proofs.YthilkphnjffnhaaGreat
open Go.RowKit
set_option linter.unusedVariables false
set_option linter.unusedSimpArgs false
set_option maxRecDepth 100000 in
set_option maxHeartbeats 8000000 in
theorem repeats_c (r : Rc) (w : World) (hf : r.f = 1 ∨ r.f = 2 ∨ r.f = 3 ∨ r.f = 4 ∨ r.f = 5) (hn : ¬ noL r) (i1 : 1 ≤ r.iv) (i2 : r.iv ≤ 1000)
    (hl : r.mo.l.length ≤ 60 ∧ r.md.l.length ≤ 60 ∧ r.yd.l.length ≤ 60 ∧ r.wk.l.length ≤ 60) :
    Calls Tryz.prog 87 #[r.val] w fun e w' => e = .returned (.tuple #[.int .i64 (repP r).1, .bool (repP r).2]) ∧ Below w.heap.size w w' := by
  have key : repP r = (12622780800, ((r.iv.toNat / Nat.gcd r.iv.toNat (manyP r.f).toNat : Nat) : Int) == 1) := by unfold repP; rw [if_neg (fun h => hn h.1), if_neg (fun h => hn h.1)]
  rw [key]
  obtain ⟨v, hv⟩ : ∃ v : Nat, r.iv = v := ⟨r.iv.toNat, by omega⟩
  obtain ⟨u, hu⟩ : ∃ u : Nat, manyP r.f = u := by rcases hf with h | h | h | h | h <;> exact ⟨(manyP r.f).toNat, by unfold manyP; rw [h]; rfl⟩
  have hu2 : 1 ≤ u ∧ u ≤ 3506328 := by
    rcases hf with h | h | h | h | h <;> (rw [h] at hu; unfold manyP at hu; simp at hu; omega)
  have hg : 0 < Nat.gcd v u := Nat.gcd_pos_of_pos_left u (by omega)
  have hsum : ((r.mo.l.length : Int) + r.md.l.length + r.yd.l.length + r.wk.l.length == 0) = false := by
    simp; unfold noL at hn; omega
  rw [hv, hu, Int.toNat_natCast, Int.toNat_natCast]
  have CG := Lib.hid (fun w => gcd_any v u w (by omega) (by omega))
  have hle2 : v / Nat.gcd v u ≤ v := Nat.div_le_self _ _
  have q1 : (v : Int).tdiv ((Nat.gcd v u : Nat) : Int) = ((v / Nat.gcd v u : Nat) : Int) := (Int.ofNat_tdiv v _).symm
  have q2 : ((Nat.gcd v u : Nat) : Int) ≠ 0 := by omega
  have hmm := @run_makeMap Tryz.prog
  obtain ⟨w1, w2, r1, r2, r3, hbm⟩ := map_one (w.alloc (.cells r.cells 25)) r.f hf
  rw [World.size_alloc] at r1 r2 r3
  have hB2 : Below w.heap.size w w2 := ((Below.refl _ w).alloc (Nat.le_refl _) _).trans (hbm.mono (by simp))
  have QCW0 := fun o => kept_cells (w0 := w) (cs := r.cells) 25 hbm rfl o
  obtain ⟨x1, x2, x3, x4, x5, s1, s2, s3, s4, s5, s6, hbn⟩ := map_two w2 r.f hf
  have hB5 : Below w.heap.size w x5 := hB2.trans (hbn.mono hB2.size)
  have d0 := cell_of_below hbn ((QCW0 0).trans (rfl : _ = some (Value.int .i64 r.f)))
  have d1 := cell_of_below hbn ((QCW0 1).trans (rfl : _ = some (Value.int .i64 r.iv)))
  have QCW := Lib.hid QCW0
  have c0 := (QCW.out 0).trans (rfl : _ = some (Value.int .i64 r.f))
  have c1 := (QCW.out 1).trans (rfl : _ = some (Value.int .i64 r.iv))
  have c2 := (QCW.out 2).trans (rfl : _ = some (Value.int .i64 r.ct))
  have c3 := (QCW.out 3).trans (rfl : _ = some (Value.int .i64 r.un))
  have c4 := (QCW.out 4).trans (rfl : _ = some r.mo.v)
  have c5 := (QCW.out 5).trans (rfl : _ = some r.md.v)
  have c6 := (QCW.out 6).trans (rfl : _ = some r.yd.v)
  have c7 := (QCW.out 7).trans (rfl : _ = some r.wk.v)
  have c8 := (QCW.out 8).trans (rfl : _ = some r.dy.v)
  have c9 := (QCW.out 9).trans (rfl : _ = some r.ho.v)
  have c10 := (QCW.out 10).trans (rfl : _ = some r.mi.v)
  have c11 := (QCW.out 11).trans (rfl : _ = some r.se.v)
  have c12 := (QCW.out 12).trans (rfl : _ = some r.po.v)
  have c13 := (QCW.out 13).trans (rfl : _ = some (Value.int .i64 r.ws))
  clear QCW QCW0
  rw [hu] at s6
  generalize v / Nat.gcd v u = q at *
  generalize Nat.gcd v u = g at *
  have q3 : IntKind.i64.wrap (q : Int) = q := IntWalk.i64_in _ (by omega)
  clear key hn hf hu
  go_enter Tryz.func87, Tryz.ntmps87
  go_wp2_with refine wp_region_calm (by kernel_rfl) (by kernel_rfl) ?_
  repeat (go_big_quiet_step (with_reducible exact Calls.calm_of (CG.out _)))
  refine wpQuiet_nil ?_
  rintro _ ⟨xx, rfl⟩
  go_wp2
  go_ret2
  exact ⟨rfl, hB5.ext hB5.size xx⟩

set_option maxRecDepth 100000 in
set_option maxHeartbeats 8000000 in
theorem repeats_d (r : Rc) (w : World) (hf : r.f = 1 ∨ r.f = 2 ∨ r.f = 3 ∨ r.f = 4 ∨ r.f = 5) (hn : noL r) (h12 : r.f = 1 ∨ r.f = 2) (i1 : 1 ≤ r.iv) (i2 : r.iv ≤ 1000) :
    Calls Tryz.prog 87 #[r.val] w fun e w' => e = .returned (.tuple #[.int .i64 (repP r).1, .bool (repP r).2]) ∧ Below w.heap.size w w' := by
  have key : repP r = (12622780800, ((r.iv.toNat / Nat.gcd r.iv.toNat (manyP r.f).toNat : Nat) : Int) == 1) := by unfold repP; rw [if_neg (by omega), if_neg (by omega)]
  rw [key]
  obtain ⟨v, hv⟩ : ∃ v : Nat, r.iv = v := ⟨r.iv.toNat, by omega⟩
  obtain ⟨u, hu⟩ : ∃ u : Nat, manyP r.f = u := by rcases hf with h | h | h | h | h <;> exact ⟨(manyP r.f).toNat, by unfold manyP; rw [h]; rfl⟩
  have hu2 : 1 ≤ u ∧ u ≤ 3506328 := by
    rcases hf with h | h | h | h | h <;> (rw [h] at hu; unfold manyP at hu; simp at hu; omega)
  have hg : 0 < Nat.gcd v u := Nat.gcd_pos_of_pos_left u (by omega)
  obtain ⟨z1, z2, z3, z4⟩ := hn
  have g3 : (r.f == 3) = false := by simp; omega
  have g4 : (r.f == 4) = false := by simp; omega
  have g5 : (r.f == 5) = false := by simp; omega
  rw [hv, hu, Int.toNat_natCast, Int.toNat_natCast]
  have CG := Lib.hid (fun w => gcd_any v u w (by omega) (by omega))
  have hle2 : v / Nat.gcd v u ≤ v := Nat.div_le_self _ _
  have q1 : (v : Int).tdiv ((Nat.gcd v u : Nat) : Int) = ((v / Nat.gcd v u : Nat) : Int) := (Int.ofNat_tdiv v _).symm
  have q2 : ((Nat.gcd v u : Nat) : Int) ≠ 0 := by omega
  have hmm := @run_makeMap Tryz.prog
  obtain ⟨w1, w2, r1, r2, r3, hbm⟩ := map_one (w.alloc (.cells r.cells 25)) r.f hf
  rw [World.size_alloc] at r1 r2 r3
  have hB2 : Below w.heap.size w w2 := ((Below.refl _ w).alloc (Nat.le_refl _) _).trans (hbm.mono (by simp))
  have QCW0 := fun o => kept_cells (w0 := w) (cs := r.cells) 25 hbm rfl o
  obtain ⟨x1, x2, x3, x4, x5, s1, s2, s3, s4, s5, s6, hbn⟩ := map_two w2 r.f hf
  have hB5 : Below w.heap.size w x5 := hB2.trans (hbn.mono hB2.size)
  have d0 := cell_of_below hbn ((QCW0 0).trans (rfl : _ = some (Value.int .i64 r.f)))
  have d1 := cell_of_below hbn ((QCW0 1).trans (rfl : _ = some (Value.int .i64 r.iv)))
  have QCW := Lib.hid QCW0
  have c0 := (QCW.out 0).trans (rfl : _ = some (Value.int .i64 r.f))
  have c1 := (QCW.out 1).trans (rfl : _ = some (Value.int .i64 r.iv))
  have c2 := (QCW.out 2).trans (rfl : _ = some (Value.int .i64 r.ct))
  have c3 := (QCW.out 3).trans (rfl : _ = some (Value.int .i64 r.un))
  have c4 := (QCW.out 4).trans (rfl : _ = some r.mo.v)
  have c5 := (QCW.out 5).trans (rfl : _ = some r.md.v)
  have c6 := (QCW.out 6).trans (rfl : _ = some r.yd.v)
  have c7 := (QCW.out 7).trans (rfl : _ = some r.wk.v)
  have c8 := (QCW.out 8).trans (rfl : _ = some r.dy.v)
  have c9 := (QCW.out 9).trans (rfl : _ = some r.ho.v)
  have c10 := (QCW.out 10).trans (rfl : _ = some r.mi.v)
  have c11 := (QCW.out 11).trans (rfl : _ = some r.se.v)
  have c12 := (QCW.out 12).trans (rfl : _ = some r.po.v)
  have c13 := (QCW.out 13).trans (rfl : _ = some (Value.int .i64 r.ws))
  clear QCW QCW0
  rw [hu] at s6
  generalize v / Nat.gcd v u = q at *
  generalize Nat.gcd v u = g at *
  have q3 : IntKind.i64.wrap (q : Int) = q := IntWalk.i64_in _ (by omega)
  clear key hf hu h12
  go_enter Tryz.func87, Tryz.ntmps87
  go_wp2_with refine wp_region_calm (by kernel_rfl) (by kernel_rfl) ?_
  repeat (go_big_quiet_step (with_reducible exact Calls.calm_of (CG.out _)))
  refine wpQuiet_nil ?_
  rintro _ ⟨xx, rfl⟩
  go_wp2
  go_ret2
  exact ⟨rfl, hB5.ext hB5.size xx⟩
end Go.Proofs.YthilkphnjffnhaaGreat
/- The walk of expand.cycle. -/
namespace Go.Proofs.YthilkphnjffnhaaGreat
open Go.RowKit
set_option linter.unusedVariables false
set_option linter.unusedSimpArgs false
theorem repeats_any (r : Rc) (w : World) (h1 : 1 ≤ r.f) (h5 : r.f ≤ 5) (i1 : 1 ≤ r.iv) (i2 : r.iv ≤ 1000) (hl : r.mo.l.length ≤ 60 ∧ r.md.l.length ≤ 60 ∧ r.yd.l.length ≤ 60 ∧ r.wk.l.length ≤ 60) :
    Calls Tryz.prog 87 #[r.val] w fun e w' => e = .returned (.tuple #[.int .i64 (repP r).1, .bool (repP r).2]) ∧ Below w.heap.size w w' := by
  have hf : r.f = 1 ∨ r.f = 2 ∨ r.f = 3 ∨ r.f = 4 ∨ r.f = 5 := by omega
  by_cases hn : noL r
  · by_cases h3 : r.f = 3
    · exact repeats_a r w hn h3 i1 i2
    · by_cases h4 : r.f = 4 ∨ r.f = 5
      · exact repeats_b r w hn h4 i1 i2
      · exact repeats_d r w hf hn (by omega) i1 i2
  · exact repeats_c r w hf hn i1 i2 hl
def cycP (r : Rc) : Int := if (repP r).2 then (repP r).1 else 12622780800 * r.iv
set_option maxHeartbeats 4000000 in
theorem cycle_any (r : Rc) (w : World) (h1 : 1 ≤ r.f) (h5 : r.f ≤ 5) (i1 : 1 ≤ r.iv) (i2 : r.iv ≤ 1000) (hl : r.mo.l.length ≤ 60 ∧ r.md.l.length ≤ 60 ∧ r.yd.l.length ≤ 60 ∧ r.wk.l.length ≤ 60) :
    Calls Tryz.prog 64 #[r.val] w fun e w' => e = .returned (.int .i64 (cycP r)) ∧ Below w.heap.size w w' := by
  have CR := Lib.hid (fun w => repeats_any r w h1 h5 i1 i2 hl)
  have key : cycP r = if (repP r).2 then (repP r).1 else 12622780800 * r.iv := rfl
  rw [key]
  clear key h1 h5 hl
  generalize (repP r).1 = N at *
  generalize (repP r).2 = b at *
  cases b
  · go_enter Tryz.func64, Tryz.ntmps64
    go_wp2_with fail
    refine (CR.out _).mono ?_
    rintro e w1 ⟨rfl, hb1⟩; obtain ⟨x, rfl⟩ := hb1.toExt; clear hb1
    go_wp2
    go_ret
    exact ⟨rfl, (by repeat (first | (with_reducible exact Below.refl _ _) | (with_reducible assumption) | (with_reducible refine RowKit.Below.ext ?_ ?_ _) | (with_reducible refine Below.alloc ?_ ?_ _) | (with_reducible refine Below.drew ?_) | (with_reducible refine RowKit.Below.drawnN ?_ _) | (with_reducible refine Below.setCell ?_ ?_ _) | (exact (by first | (simp; done) | (simp; omega) | omega))))⟩
  · go_enter Tryz.func64, Tryz.ntmps64
    go_wp2_with fail
    refine (CR.out _).mono ?_
    rintro e w1 ⟨rfl, hb1⟩; obtain ⟨x, rfl⟩ := hb1.toExt; clear hb1
    go_wp2
    go_ret
    exact ⟨rfl, (by repeat (first | (with_reducible exact Below.refl _ _) | (with_reducible assumption) | (with_reducible refine RowKit.Below.ext ?_ ?_ _) | (with_reducible refine Below.alloc ?_ ?_ _) | (with_reducible refine Below.drew ?_) | (with_reducible refine RowKit.Below.drawnN ?_ _) | (with_reducible refine Below.setCell ?_ ?_ _) | (exact (by first | (simp; done) | (simp; omega) | omega))))⟩
end Go.Proofs.YthilkphnjffnhaaGreat
