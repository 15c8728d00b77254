/- The maps of expand.repeats. -/
import Derived.Test.YthilkphnjffnhaaGreatJM
import Derived.Maps.Own
import Derived.Test.YthilkphnjffnhaaGreatJI
namespace Go.Proofs.YthilkphnjffnhaaGreat
open Go.RowKit
set_option linter.unusedVariables false
set_option linter.unusedSimpArgs false
theorem und119 : Tryz.prog.underlying 119 = some (.map 3 3) := by kernel_rfl
theorem und3 : Tryz.prog.underlying 3 = some (.int .i64) := by kernel_rfl
theorem zero3 (w : World) : (zeroValue 3).run Tryz.prog w = .ok (.int .i64 0) w := by kernel_rfl
abbrev MD := DataW Unit
def kl (x : Int) : Lit := .int .i64 x
theorem kof (x : Int) (h : (Lit.int .i64 x).wf = true) : keyOf Tryz.prog 3 (.int .i64 x) = some (kl x) := Maps.keyOf_int_mk und3 h
/-- one more entry of a map of numbers -/
theorem map_put {w : World} {b n : Nat} {D : MD} (h : w.ownsMap Tryz.prog 3 (plainElem Tryz.prog 3) b n D) (hn : n < 100) (x v : Int) (hx : (Lit.int .i64 x).wf = true) (hv : (Lit.int .i64 v).wf = true) :
    ∃ w', (Instr.mapUpdate 119 (.map (some b)) (.int .i64 x) (.int .i64 v)).run Tryz.prog w = .ok () w' ∧ w'.ownsMap Tryz.prog 3 (plainElem Tryz.prog 3) b (n + 1) (D.put (kl x) (.lit (.int .i64 v))) ∧ w.grownBy w' (some b) :=
  h.update (Maps.int_keyed und3) und119 (by unfold maxLen; omega) (kof x hx) (plainElem_int und3 hv)
theorem map_get {w : World} {b n : Nat} {D : MD} (h : w.ownsMap Tryz.prog 3 (plainElem Tryz.prog 3) b n D) (x c : Int) (hx : (Lit.int .i64 x).wf = true) (hc : D.atKey (kl x) (.lit (.int .i64 0)) = .lit (.int .i64 c)) :
    (Instr.lookup 119 (.map (some b)) (.int .i64 x) false).run Tryz.prog w = .ok (.int .i64 c) w := by
  obtain ⟨c', hrun, hat, _⟩ := h.lookup_int (Maps.int_keyed und3) und119 und3 (zero3 w) (kof x hx)
  rw [hc] at hat
  have : c = c' := by simpa using hat
  rw [this]; exact hrun

def unitP (f : Int) : Int := if f = 4 then 86400 else if f = 5 then 3600 else 0
def manyP (f : Int) : Int := if f = 1 then 400 else if f = 2 then 4800 else if f = 3 then 20871 else if f = 4 then 146097 else 3506328
theorem map_one (w : World) (f : Int) (hf : f = 1 ∨ f = 2 ∨ f = 3 ∨ f = 4 ∨ f = 5) : ∃ w1 w2, (Instr.mapUpdate 119 (.map (some w.heap.size)) (.int .i64 4) (.int .i64 86400)).run Tryz.prog (w.alloc (.map #[] 0)) = .ok () w1 ∧
    (Instr.mapUpdate 119 (.map (some w.heap.size)) (.int .i64 5) (.int .i64 3600)).run Tryz.prog w1 = .ok () w2 ∧
    (Instr.lookup 119 (.map (some w.heap.size)) (.int .i64 f) false).run Tryz.prog w2 = .ok (.int .i64 (unitP f)) w2 ∧ Below w.heap.size w w2 := by
  have h0 := World.ownsMap_made w Tryz.prog 3 (plainElem (H := Unit) Tryz.prog 3)
  obtain ⟨w1, r1, o1, g1⟩ := map_put h0 (by omega) 4 86400 (by decide) (by decide)
  obtain ⟨w2, r2, o2, g2⟩ := map_put o1 (by omega) 5 3600 (by decide) (by decide)
  have hb0 : Below w.heap.size w (w.alloc (.map #[] 0)) := (Below.refl _ w).alloc (Nat.le_refl _) _
  have hb1 := hb0.grown g1 hb0.size (fun k e => by cases e; exact Nat.le_refl _)
  have hb2 := hb1.grown g2 hb1.size (fun k e => by cases e; exact Nat.le_refl _)
  refine ⟨w1, w2, r1, r2, ?_, hb2⟩
  rcases hf with rfl | rfl | rfl | rfl | rfl <;> exact map_get o2 _ _ (by decide) (by first | kernel_rfl | rfl)

theorem map_two (w : World) (f : Int) (hf : f = 1 ∨ f = 2 ∨ f = 3 ∨ f = 4 ∨ f = 5) : ∃ w1 w2 w3 w4 w5, (Instr.mapUpdate 119 (.map (some w.heap.size)) (.int .i64 1) (.int .i64 400)).run Tryz.prog (w.alloc (.map #[] 0)) = .ok () w1 ∧
    (Instr.mapUpdate 119 (.map (some w.heap.size)) (.int .i64 2) (.int .i64 4800)).run Tryz.prog w1 = .ok () w2 ∧
    (Instr.mapUpdate 119 (.map (some w.heap.size)) (.int .i64 3) (.int .i64 20871)).run Tryz.prog w2 = .ok () w3 ∧
    (Instr.mapUpdate 119 (.map (some w.heap.size)) (.int .i64 4) (.int .i64 146097)).run Tryz.prog w3 = .ok () w4 ∧
    (Instr.mapUpdate 119 (.map (some w.heap.size)) (.int .i64 5) (.int .i64 3506328)).run Tryz.prog w4 = .ok () w5 ∧
    (Instr.lookup 119 (.map (some w.heap.size)) (.int .i64 f) false).run Tryz.prog w5 = .ok (.int .i64 (manyP f)) w5 ∧ Below w.heap.size w w5 := by
  have h0 := World.ownsMap_made w Tryz.prog 3 (plainElem (H := Unit) Tryz.prog 3)
  obtain ⟨w1, r1, o1, g1⟩ := map_put h0 (by omega) 1 400 (by decide) (by decide)
  obtain ⟨w2, r2, o2, g2⟩ := map_put o1 (by omega) 2 4800 (by decide) (by decide)
  obtain ⟨w3, r3, o3, g3⟩ := map_put o2 (by omega) 3 20871 (by decide) (by decide)
  obtain ⟨w4, r4, o4, g4⟩ := map_put o3 (by omega) 4 146097 (by decide) (by decide)
  obtain ⟨w5, r5, o5, g5⟩ := map_put o4 (by omega) 5 3506328 (by decide) (by decide)
  have hb0 : Below w.heap.size w (w.alloc (.map #[] 0)) := (Below.refl _ w).alloc (Nat.le_refl _) _
  have hb1 := hb0.grown g1 hb0.size (fun k e => by cases e; exact Nat.le_refl _)
  have hb2 := hb1.grown g2 hb1.size (fun k e => by cases e; exact Nat.le_refl _)
  have hb3 := hb2.grown g3 hb2.size (fun k e => by cases e; exact Nat.le_refl _)
  have hb4 := hb3.grown g4 hb3.size (fun k e => by cases e; exact Nat.le_refl _)
  have hb5 := hb4.grown g5 hb4.size (fun k e => by cases e; exact Nat.le_refl _)
  refine ⟨w1, w2, w3, w4, w5, r1, r2, r3, r4, r5, ?_, hb5⟩
  rcases hf with rfl | rfl | rfl | rfl | rfl <;> exact map_get o5 _ _ (by decide) (by first | kernel_rfl | rfl)
end Go.Proofs.YthilkphnjffnhaaGreat
/- The walks of expand.repeats and expand.cycle. -/
namespace Go.Proofs.YthilkphnjffnhaaGreat
open Go.RowKit
set_option linter.unusedVariables false
set_option linter.unusedSimpArgs false
def noL (r : Rc) : Prop := r.mo.l.length = 0 ∧ r.md.l.length = 0 ∧ r.yd.l.length = 0 ∧ r.wk.l.length = 0
instance (r : Rc) : Decidable (noL r) := by unfold noL; infer_instance
def lcmP (r : Rc) : Int := (((unitP r.f).toNat * r.iv.toNat * (604800 / Nat.gcd ((unitP r.f).toNat * r.iv.toNat) 604800) : Nat) : Int)
def repP (r : Rc) : Int × Bool :=
  if noL r ∧ r.f = 3 then (604800 * r.iv, true)
  else if noL r ∧ (r.f = 4 ∨ r.f = 5) then (lcmP r, decide (lcmP r ≤ 12622780800))
  else (12622780800, ((r.iv.toNat / Nat.gcd r.iv.toNat (manyP r.f).toNat : Nat) : Int) == 1)

set_option maxRecDepth 100000 in
set_option maxHeartbeats 8000000 in
theorem repeats_a (r : Rc) (w : World) (hn : noL r) (h3 : r.f = 3) (i1 : 1 ≤ r.iv) (i2 : r.iv ≤ 1000) :
    Calls Tryz.prog 87 #[r.val] w fun e w' => e = .returned (.tuple #[.int .i64 (repP r).1, .bool (repP r).2]) ∧ Below w.heap.size w w' := by
  have key : repP r = (604800 * r.iv, true) := by unfold repP; rw [if_pos ⟨hn, h3⟩]
  rw [key]
  have hf : r.f = 1 ∨ r.f = 2 ∨ r.f = 3 ∨ r.f = 4 ∨ r.f = 5 := .inr (.inr (.inl h3))
  obtain ⟨z1, z2, z3, z4⟩ := hn
  have hu : unitP r.f = 0 := by unfold unitP; rw [if_neg (by omega), if_neg (by omega)]
  have hmm := @run_makeMap Tryz.prog
  obtain ⟨w1, w2, r1, r2, r3, hbm⟩ := map_one (w.alloc (.cells r.cells 25)) r.f hf
  rw [World.size_alloc] at r1 r2 r3
  have hB2 : Below w.heap.size w w2 := ((Below.refl _ w).alloc (Nat.le_refl _) _).trans (hbm.mono (by simp))
  have QCW := Lib.hid (fun o => kept_cells (w0 := w) (cs := r.cells) 25 hbm rfl o)
  have c0 := (QCW.out 0).trans (rfl : _ = some (Value.int .i64 r.f))
  have c1 := (QCW.out 1).trans (rfl : _ = some (Value.int .i64 r.iv))
  have c2 := (QCW.out 2).trans (rfl : _ = some (Value.int .i64 r.ct))
  have c3 := (QCW.out 3).trans (rfl : _ = some (Value.int .i64 r.un))
  have c4 := (QCW.out 4).trans (rfl : _ = some r.mo.v)
  have c5 := (QCW.out 5).trans (rfl : _ = some r.md.v)
  have c6 := (QCW.out 6).trans (rfl : _ = some r.yd.v)
  have c7 := (QCW.out 7).trans (rfl : _ = some r.wk.v)
  have c8 := (QCW.out 8).trans (rfl : _ = some r.dy.v)
  have c9 := (QCW.out 9).trans (rfl : _ = some r.ho.v)
  have c10 := (QCW.out 10).trans (rfl : _ = some r.mi.v)
  have c11 := (QCW.out 11).trans (rfl : _ = some r.se.v)
  have c12 := (QCW.out 12).trans (rfl : _ = some r.po.v)
  have c13 := (QCW.out 13).trans (rfl : _ = some (Value.int .i64 r.ws))
  clear QCW
  rw [hu] at r3
  have g3 : (r.f == 3) = true := by simp [h3]
  clear key h3 hf hu
  go_enter Tryz.func87, Tryz.ntmps87
  go_wp2
  go_ret2
  exact ⟨rfl, hB2⟩

set_option maxRecDepth 100000 in
set_option maxHeartbeats 8000000 in
theorem repeats_b (r : Rc) (w : World) (hn : noL r) (h3 : r.f = 4 ∨ r.f = 5) (i1 : 1 ≤ r.iv) (i2 : r.iv ≤ 1000) :
    Calls Tryz.prog 87 #[r.val] w fun e w' => e = .returned (.tuple #[.int .i64 (repP r).1, .bool (repP r).2]) ∧ Below w.heap.size w w' := by
  have key : repP r = (lcmP r, decide (lcmP r ≤ 12622780800)) := by unfold repP; rw [if_neg (by omega), if_pos ⟨hn, h3⟩]
  rw [key]
  have hf : r.f = 1 ∨ r.f = 2 ∨ r.f = 3 ∨ r.f = 4 ∨ r.f = 5 := .inr (.inr (.inr h3))
  obtain ⟨z1, z2, z3, z4⟩ := hn
  obtain ⟨u, hu⟩ : ∃ u : Nat, unitP r.f = u := by rcases h3 with h | h <;> exact ⟨(unitP r.f).toNat, by unfold unitP; rw [h]; rfl⟩
  have hu2 : 1 ≤ u ∧ u ≤ 86400 := by
    rcases h3 with h | h <;> (rw [h] at hu; unfold unitP at hu; simp at hu; omega)
  obtain ⟨v, hv⟩ : ∃ v : Nat, r.iv = v := ⟨r.iv.toNat, by omega⟩
  have hv2 : 1 ≤ v ∧ v ≤ 1000 := by omega
  have huv : 1 ≤ u * v ∧ u * v ≤ 86400000 := ⟨Nat.mul_pos (by omega) (by omega), by have := Nat.mul_le_mul hu2.2 hv2.2; omega⟩
  have hl : lcmP r = ((u * v * (604800 / Nat.gcd (u * v) 604800) : Nat) : Int) := by unfold lcmP; rw [hu, hv, Int.toNat_natCast, Int.toNat_natCast]
  have CL : Hid (∀ w, Calls Tryz.prog 98 #[.int .i64 ((u * v : Nat) : Int), .int .i64 604800] w fun e w' => e = .returned (.tuple #[.int .i64 (lcmP r), .int .i64 0]) ∧ Below w.heap.size w w') :=
    fun w => by rw [hl]; exact lcm_any (u * v) 604800 w (by omega) (by omega) huv.1 (by omega) (by omega)
  have hmm := @run_makeMap Tryz.prog
  obtain ⟨w1, w2, r1, r2, r3, hbm⟩ := map_one (w.alloc (.cells r.cells 25)) r.f hf
  rw [World.size_alloc] at r1 r2 r3
  have hB2 : Below w.heap.size w w2 := ((Below.refl _ w).alloc (Nat.le_refl _) _).trans (hbm.mono (by simp))
  have QCW := Lib.hid (fun o => kept_cells (w0 := w) (cs := r.cells) 25 hbm rfl o)
  have c0 := (QCW.out 0).trans (rfl : _ = some (Value.int .i64 r.f))
  have c1 := (QCW.out 1).trans (rfl : _ = some (Value.int .i64 r.iv))
  have c2 := (QCW.out 2).trans (rfl : _ = some (Value.int .i64 r.ct))
  have c3 := (QCW.out 3).trans (rfl : _ = some (Value.int .i64 r.un))
  have c4 := (QCW.out 4).trans (rfl : _ = some r.mo.v)
  have c5 := (QCW.out 5).trans (rfl : _ = some r.md.v)
  have c6 := (QCW.out 6).trans (rfl : _ = some r.yd.v)
  have c7 := (QCW.out 7).trans (rfl : _ = some r.wk.v)
  have c8 := (QCW.out 8).trans (rfl : _ = some r.dy.v)
  have c9 := (QCW.out 9).trans (rfl : _ = some r.ho.v)
  have c10 := (QCW.out 10).trans (rfl : _ = some r.mi.v)
  have c11 := (QCW.out 11).trans (rfl : _ = some r.se.v)
  have c12 := (QCW.out 12).trans (rfl : _ = some r.po.v)
  have c13 := (QCW.out 13).trans (rfl : _ = some (Value.int .i64 r.ws))
  clear QCW
  rw [hu] at r3
  have q1 : wrap64 ((u : Int) * (v : Int)) = ((u * v : Nat) : Int) := by rw [← Int.natCast_mul]; exact wrap64_id _ (by omega) (by omega)
  have g3 : (r.f == 3) = false := by simp; omega
  clear key hl
  generalize lcmP r = N at *
  generalize u * v = uv at *
  rcases h3 with h4 | h4
  all_goals
    rw [h4] at r3 c0 g3
    go_enter Tryz.func87, Tryz.ntmps87
    go_wp2_with fail
    refine (CL.out _).mono ?_
    rintro e w1 ⟨rfl, hb1⟩; obtain ⟨x, rfl⟩ := hb1.toExt; clear hb1
    go_wp2
    go_ret2
    exact ⟨rfl, hB2.ext hB2.size x⟩
end Go.Proofs.YthilkphnjffnhaaGreat
