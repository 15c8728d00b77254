/- The walk of expand.period: months, weeks, days, hours; the whole of it; skip. -/
import Derived.Test.YthilkphnjffnhaaGreatJK
import Derived.Test.YthilkphnjffnhaaGreatJI
namespace Go.Proofs.YthilkphnjffnhaaGreat
open Go.RowKit
set_option linter.unusedVariables false
set_option linter.unusedSimpArgs false
set_option maxRecDepth 100000 in
set_option maxHeartbeats 8000000 in
theorem period3_any (r : Rc) (l : Int) (w : World) (hf : r.f = 2) (h5 : -62121600000 ≤ l) (h6 : l < 253402300800) :
    Calls Tryz.prog 65 #[r.val, .int .i64 l] w fun e w' => e = .returned (.agg #[.int .i64 (perP r l).1, .int .i64 (perP r l).2]) ∧ Below w.heap.size w w' := by
  have q1 : -719000 ≤ l / 86400 := by omega
  have q2 : l / 86400 < 2932897 := by omega
  have key : perP r l = (86400 * (l / 86400 - dm (l / 86400) + 1), 86400 * (l / 86400 - dm (l / 86400) + 1 + mlen (yr (l / 86400)) (mo (l / 86400)))) := by
    unfold perP perD; rw [if_neg (by omega), if_neg (by omega), if_pos hf]
  rw [key]
  clear key
  have hd := date_of (l / 86400) (by omega) q2
  obtain ⟨y1, y2, m1, m2, d1, d2, _⟩ := hd
  have hm := mlen_bd (yr (l / 86400)) (mo (l / 86400))
  have AD := Lib.hid (fun w => date_any (l / 86400) w (by omega) q2)
  have AL := Lib.hid (fun w => length_any (yr (l / 86400)) (mo (l / 86400)) w y1 y2 m1 m2)
  have eg : ∀ args w, (callFunc 88 args).run Tryz.prog w = .ok (.enter 88 args) w := enters_of Tryz.func88 (by kernel_rfl) rfl
  generalize mlen (yr (l / 86400)) (mo (l / 86400)) = lm at *
  generalize yr (l / 86400) = Y at *
  generalize mo (l / 86400) = mm at *
  generalize dm (l / 86400) = dd at *
  have AS := Lib.hid (fun w => span_any (l / 86400 - dd + 1) (l / 86400 - dd + 1 + lm) w (by omega) (by omega) (by omega) (by omega))
  obtain ⟨f, iv, ct, un, mo1, md, yd, wk, dy, ho, mi, se, po, ws⟩ := r
  dsimp only [Rc.val, Rc.cells] at *
  subst hf
  obtain ⟨N1, hN1⟩ : ∃ N1, N1 = 86400 * (l / 86400 - dd + 1) := ⟨_, rfl⟩
  obtain ⟨N2, hN2⟩ : ∃ N2, N2 = 86400 * (l / 86400 - dd + 1 + lm) := ⟨_, rfl⟩
  rw [← hN1, ← hN2] at AS ⊢
  clear hN1 hN2
  go_enter Tryz.func65, Tryz.ntmps65
  go_wp2_with fail
  refine (floor_any l 86400 _ (by omega) (by omega) (by omega) (by omega)).mono ?_
  rintro e w1 ⟨rfl, nd, rfl⟩
  go_wp2_with fail
  refine (AD.out _).mono ?_
  rintro e w1 ⟨rfl, hb1⟩; obtain ⟨x, rfl⟩ := hb1.toExt; clear hb1
  go_wp2_with fail
  refine (AL.out _).mono ?_
  rintro e w2 ⟨rfl, rfl⟩
  go_wp2_with fail
  refine (AS.out _).mono ?_
  rintro e w3 ⟨rfl, hb3⟩; obtain ⟨x3, rfl⟩ := hb3.toExt; clear hb3
  go_wp2
  exact bodyPost_ret (v := .agg #[.int .i64 N1, .int .i64 N2]) (by simp [results, Tryz.results65, go_sem]) rfl ⟨rfl, (by repeat (first | (with_reducible exact Below.refl _ _) | (with_reducible assumption) | (with_reducible refine RowKit.Below.ext ?_ ?_ _) | (with_reducible refine Below.alloc ?_ ?_ _) | (with_reducible refine Below.drew ?_) | (with_reducible refine RowKit.Below.drawnN ?_ _) | (with_reducible refine Below.setCell ?_ ?_ _) | (exact (by first | (simp; done) | (simp; omega) | omega))))⟩

set_option maxRecDepth 100000 in
set_option maxHeartbeats 8000000 in
theorem period4_any (r : Rc) (l : Int) (w : World) (hf : r.f = 3) (h3 : 1 ≤ r.ws) (h4 : r.ws ≤ 7) (h5 : -62121600000 ≤ l) (h6 : l < 253402300800) :
    Calls Tryz.prog 65 #[r.val, .int .i64 l] w fun e w' => e = .returned (.agg #[.int .i64 (perP r l).1, .int .i64 (perP r l).2]) ∧ Below w.heap.size w w' := by
  have q1 : -719000 ≤ l / 86400 := by omega
  have q2 : l / 86400 < 2932897 := by omega
  have key : perP r l = (86400 * wkS (l / 86400) r.ws, 86400 * (wkS (l / 86400) r.ws + 7)) := by
    unfold perP perD; rw [if_neg (by omega), if_neg (by omega), if_neg (by omega), if_pos hf]
  rw [key]
  clear key
  have hb := wkS_bd (l / 86400) r.ws
  have AD := Lib.hid (fun w => date_any (l / 86400) w (by omega) q2)
  have AW := Lib.hid (fun w => weekof_any (l / 86400) r.ws w (by omega) (by omega) h3 h4)
  have eg : ∀ args w, (callFunc 88 args).run Tryz.prog w = .ok (.enter 88 args) w := enters_of Tryz.func88 (by kernel_rfl) rfl
  generalize yr (l / 86400) = Y at *
  generalize mo (l / 86400) = mm at *
  generalize dm (l / 86400) = dd at *
  generalize wkS (l / 86400) r.ws = k at *
  have AS := Lib.hid (fun w => span_any k (k + 7) w (by omega) (by omega) (by omega) (by omega))
  obtain ⟨f, iv, ct, un, mo1, md, yd, wk, dy, ho, mi, se, po, ws⟩ := r
  dsimp only [Rc.val, Rc.cells] at *
  subst hf
  obtain ⟨N1, hN1⟩ : ∃ N1, N1 = 86400 * k := ⟨_, rfl⟩
  obtain ⟨N2, hN2⟩ : ∃ N2, N2 = 86400 * (k + 7) := ⟨_, rfl⟩
  rw [← hN1, ← hN2] at AS ⊢
  clear hN1 hN2
  go_enter Tryz.func65, Tryz.ntmps65
  go_wp2_with fail
  refine (floor_any l 86400 _ (by omega) (by omega) (by omega) (by omega)).mono ?_
  rintro e w1 ⟨rfl, nd, rfl⟩
  go_wp2_with fail
  refine (AD.out _).mono ?_
  rintro e w1 ⟨rfl, hb1⟩; obtain ⟨x, rfl⟩ := hb1.toExt; clear hb1
  go_wp2_with fail
  refine (AW.out _).mono ?_
  rintro e w2 ⟨rfl, n2, rfl⟩
  go_wp2_with fail
  refine (AS.out _).mono ?_
  rintro e w3 ⟨rfl, hb3⟩; obtain ⟨x3, rfl⟩ := hb3.toExt; clear hb3
  go_wp2
  exact bodyPost_ret (v := .agg #[.int .i64 N1, .int .i64 N2]) (by simp [results, Tryz.results65, go_sem]) rfl ⟨rfl, (by repeat (first | (with_reducible exact Below.refl _ _) | (with_reducible assumption) | (with_reducible refine RowKit.Below.ext ?_ ?_ _) | (with_reducible refine Below.alloc ?_ ?_ _) | (with_reducible refine Below.drew ?_) | (with_reducible refine RowKit.Below.drawnN ?_ _) | (with_reducible refine Below.setCell ?_ ?_ _) | (exact (by first | (simp; done) | (simp; omega) | omega))))⟩

set_option maxRecDepth 100000 in
set_option maxHeartbeats 8000000 in
theorem period5_any (r : Rc) (l : Int) (w : World) (hf : r.f = 4) (h5 : -62121600000 ≤ l) (h6 : l < 253402300800) :
    Calls Tryz.prog 65 #[r.val, .int .i64 l] w fun e w' => e = .returned (.agg #[.int .i64 (perP r l).1, .int .i64 (perP r l).2]) ∧ Below w.heap.size w w' := by
  have q1 : -719000 ≤ l / 86400 := by omega
  have q2 : l / 86400 < 2932897 := by omega
  have key : perP r l = (86400 * (l / 86400), 86400 * (l / 86400 + 1)) := by
    unfold perP perD; rw [if_neg (by omega), if_neg (by omega), if_neg (by omega), if_neg (by omega)]
  rw [key]
  clear key
  have AD := Lib.hid (fun w => date_any (l / 86400) w (by omega) q2)
  have eg : ∀ args w, (callFunc 88 args).run Tryz.prog w = .ok (.enter 88 args) w := enters_of Tryz.func88 (by kernel_rfl) rfl
  generalize yr (l / 86400) = Y at *
  generalize mo (l / 86400) = mm at *
  generalize dm (l / 86400) = dd at *
  have AS := Lib.hid (fun w => span_any (l / 86400) (l / 86400 + 1) w (by omega) (by omega) (by omega) (by omega))
  obtain ⟨f, iv, ct, un, mo1, md, yd, wk, dy, ho, mi, se, po, ws⟩ := r
  dsimp only [Rc.val, Rc.cells] at *
  subst hf
  obtain ⟨N1, hN1⟩ : ∃ N1, N1 = 86400 * (l / 86400) := ⟨_, rfl⟩
  obtain ⟨N2, hN2⟩ : ∃ N2, N2 = 86400 * (l / 86400 + 1) := ⟨_, rfl⟩
  rw [← hN1, ← hN2] at AS ⊢
  clear hN1 hN2
  go_enter Tryz.func65, Tryz.ntmps65
  go_wp2_with fail
  refine (floor_any l 86400 _ (by omega) (by omega) (by omega) (by omega)).mono ?_
  rintro e w1 ⟨rfl, nd, rfl⟩
  go_wp2_with fail
  refine (AD.out _).mono ?_
  rintro e w1 ⟨rfl, hb1⟩; obtain ⟨x, rfl⟩ := hb1.toExt; clear hb1
  go_wp2_with fail
  refine (AS.out _).mono ?_
  rintro e w3 ⟨rfl, hb3⟩; obtain ⟨x3, rfl⟩ := hb3.toExt; clear hb3
  go_wp2
  exact bodyPost_ret (v := .agg #[.int .i64 N1, .int .i64 N2]) (by simp [results, Tryz.results65, go_sem]) rfl ⟨rfl, (by repeat (first | (with_reducible exact Below.refl _ _) | (with_reducible assumption) | (with_reducible refine RowKit.Below.ext ?_ ?_ _) | (with_reducible refine Below.alloc ?_ ?_ _) | (with_reducible refine Below.drew ?_) | (with_reducible refine RowKit.Below.drawnN ?_ _) | (with_reducible refine Below.setCell ?_ ?_ _) | (exact (by first | (simp; done) | (simp; omega) | omega))))⟩

set_option maxRecDepth 100000 in
set_option maxHeartbeats 8000000 in
theorem period6_any (r : Rc) (l : Int) (w : World) (hf : r.f = 5) (h5 : -62121600000 ≤ l) (h6 : l < 253402300800) :
    Calls Tryz.prog 65 #[r.val, .int .i64 l] w fun e w' => e = .returned (.agg #[.int .i64 (perP r l).1, .int .i64 (perP r l).2]) ∧ Below w.heap.size w w' := by
  have q1 : -719000 ≤ l / 86400 := by omega
  have q2 : l / 86400 < 2932897 := by omega
  have key : perP r l = (3600 * (l / 3600), 3600 * (l / 3600) + 3600) := by
    unfold perP; rw [if_pos hf]
  rw [key]
  clear key
  have AD := Lib.hid (fun w => date_any (l / 86400) w (by omega) q2)
  generalize yr (l / 86400) = Y at *
  generalize mo (l / 86400) = mm at *
  generalize dm (l / 86400) = dd at *
  obtain ⟨f, iv, ct, un, mo1, md, yd, wk, dy, ho, mi, se, po, ws⟩ := r
  dsimp only [Rc.val, Rc.cells] at *
  subst hf
  go_enter Tryz.func65, Tryz.ntmps65
  go_wp2_with fail
  refine (floor_any l 86400 _ (by omega) (by omega) (by omega) (by omega)).mono ?_
  rintro e w1 ⟨rfl, nd, rfl⟩
  go_wp2_with fail
  refine (AD.out _).mono ?_
  rintro e w1 ⟨rfl, hb1⟩; obtain ⟨x, rfl⟩ := hb1.toExt; clear hb1
  go_wp2_with fail
  refine (floor_any l 3600 _ (by omega) (by omega) (by omega) (by omega)).mono ?_
  rintro e w3 ⟨rfl, n3, rfl⟩
  go_wp2
  exact bodyPost_ret (v := .agg #[.int .i64 (3600 * (l / 3600)), .int .i64 (3600 * (l / 3600) + 3600)]) (by simp [results, Tryz.results65, go_sem]) rfl ⟨rfl, (by repeat (first | (with_reducible exact Below.refl _ _) | (with_reducible assumption) | (with_reducible refine RowKit.Below.ext ?_ ?_ _) | (with_reducible refine Below.alloc ?_ ?_ _) | (with_reducible refine Below.drew ?_) | (with_reducible refine RowKit.Below.drawnN ?_ _) | (with_reducible refine Below.setCell ?_ ?_ _) | (exact (by first | (simp; done) | (simp; omega) | omega))))⟩

theorem period_any (r : Rc) (l : Int) (w : World) (f1 : 1 ≤ r.f) (f5 : r.f ≤ 5) (h3 : 1 ≤ r.ws) (h4 : r.ws ≤ 7) (h5 : -62121600000 ≤ l) (h6 : l < 253402300800) :
    Calls Tryz.prog 65 #[r.val, .int .i64 l] w fun e w' => e = .returned (.agg #[.int .i64 (perP r l).1, .int .i64 (perP r l).2]) ∧ Below w.heap.size w w' := by
  have hc : r.f = 1 ∨ r.f = 2 ∨ r.f = 3 ∨ r.f = 4 ∨ r.f = 5 := by omega
  rcases hc with h | h | h | h | h
  · by_cases hw : r.wk.l.length = 0
    · exact period1_any r l w h hw h5 h6
    · exact period2_any r l w h hw h3 h4 h5 h6
  · exact period3_any r l w h h5 h6
  · exact period4_any r l w h h3 h4 h5 h6
  · exact period5_any r l w h h5 h6
  · exact period6_any r l w h h5 h6
end Go.Proofs.YthilkphnjffnhaaGreat
/- The walk of expand.skip. -/
namespace Go.Proofs.YthilkphnjffnhaaGreat
open Go.RowKit
set_option linter.unusedVariables false
set_option linter.unusedSimpArgs false
noncomputable def skipL (r : Rc) : Nat → Int → Int
  | 0, t => t
  | k + 1, t => if t < 253402300800 then skipL r k (perP r t).2 else t
noncomputable def skipP (r : Rc) (sp : Int × Int) (n : Int) : Int :=
  if r.f = 3 then sp.1 + 604800 * n else if r.f = 4 then sp.1 + 86400 * n else if r.f = 5 then sp.1 + 3600 * n else skipL r (n - 1).toNat sp.2

theorem field95 (a b : Int) (w : World) : (Instr.field 95 (.agg #[.int .i64 a, .int .i64 b]) 1).run Tryz.prog w = .ok (.int .i64 b) w := by
  kernel_rfl
set_option maxRecDepth 100000 in
set_option maxHeartbeats 8000000 in
theorem skip_any (r : Rc) (a b n : Int) (w : World) (f1 : 1 ≤ r.f) (f5 : r.f ≤ 5) (h3 : 1 ≤ r.ws) (h4 : r.ws ≤ 7) (n1 : 1 ≤ n) (n2 : n ≤ 1000) (a1 : -62200000000 ≤ a) (a2 : a < 254000000000) (b1 : -62121600000 ≤ b) (b2 : b < 253402300800 + 32227200) :
    Calls Tryz.prog 66 #[r.val, .agg #[.int .i64 a, .int .i64 b], .int .i64 n] w fun e w' => e = .returned (.int .i64 (skipP r (a, b) n)) ∧ Below w.heap.size w w' := by
  have key : skipP r (a, b) n = if r.f = 3 then a + 604800 * n else if r.f = 4 then a + 86400 * n else if r.f = 5 then a + 3600 * n else skipL r (n - 1).toNat b := rfl
  rw [key]
  clear key
  by_cases e3 : r.f = 3
  · rw [if_pos e3]
    have g3 : (r.f == 3) = true := by simp [e3]
    clear e3
    go_enter Tryz.func66, Tryz.ntmps66
    go_wp2
    go_ret
    exact ⟨rfl, (by repeat (first | (with_reducible exact Below.refl _ _) | (with_reducible assumption) | (with_reducible refine RowKit.Below.ext ?_ ?_ _) | (with_reducible refine Below.alloc ?_ ?_ _) | (with_reducible refine Below.drew ?_) | (with_reducible refine RowKit.Below.drawnN ?_ _) | (with_reducible refine Below.setCell ?_ ?_ _) | (exact (by first | (simp; done) | (simp; omega) | omega))))⟩
  rw [if_neg e3]
  have g3 : (r.f == 3) = false := by simp [e3]
  by_cases e4 : r.f = 4
  · rw [if_pos e4]
    have g4 : (r.f == 4) = true := by simp [e4]
    clear e3 e4
    go_enter Tryz.func66, Tryz.ntmps66
    go_wp2
    go_ret
    exact ⟨rfl, (by repeat (first | (with_reducible exact Below.refl _ _) | (with_reducible assumption) | (with_reducible refine RowKit.Below.ext ?_ ?_ _) | (with_reducible refine Below.alloc ?_ ?_ _) | (with_reducible refine Below.drew ?_) | (with_reducible refine RowKit.Below.drawnN ?_ _) | (with_reducible refine Below.setCell ?_ ?_ _) | (exact (by first | (simp; done) | (simp; omega) | omega))))⟩
  rw [if_neg e4]
  have g4 : (r.f == 4) = false := by simp [e4]
  by_cases e5 : r.f = 5
  · rw [if_pos e5]
    have g5 : (r.f == 5) = true := by simp [e5]
    clear e3 e4 e5
    go_enter Tryz.func66, Tryz.ntmps66
    go_wp2
    go_ret
    exact ⟨rfl, (by repeat (first | (with_reducible exact Below.refl _ _) | (with_reducible assumption) | (with_reducible refine RowKit.Below.ext ?_ ?_ _) | (with_reducible refine Below.alloc ?_ ?_ _) | (with_reducible refine Below.drew ?_) | (with_reducible refine RowKit.Below.drawnN ?_ _) | (with_reducible refine Below.setCell ?_ ?_ _) | (exact (by first | (simp; done) | (simp; omega) | omega))))⟩
  rw [if_neg e5]
  have g5 : (r.f == 5) = false := by simp [e5]
  have CP := Lib.hid (fun (t : Int) w (q1 : -62121600000 ≤ t) (q2 : t < 253402300800) => period_any r t w f1 f5 h3 h4 q1 q2)
  have CB := Lib.hid (fun (t : Int) (q1 : -62121600000 ≤ t) (q2 : t < 253402300800) => perP_bd r t q1 q2 h3 h4)
  clear e3 e4 e5 f1 f5 h3 h4 a1 a2
  generalize hRES : skipL r (n - 1).toNat b = RES
  have HRES := Lib.hid hRES
  clear hRES
  go_enter Tryz.func66, Tryz.ntmps66
  go_wp2_with fail
  refine at_world (fun W => Below w.heap.size w W ∧ (∀ o, W.cell? ⟨w.heap.size, o, none⟩ = r.cells[o]?)) ⟨(by repeat (first | (with_reducible exact Below.refl _ _) | (with_reducible assumption) | (with_reducible refine RowKit.Below.ext ?_ ?_ _) | (with_reducible refine Below.alloc ?_ ?_ _) | (with_reducible refine Below.drew ?_) | (with_reducible refine RowKit.Below.drawnN ?_ _) | (with_reducible refine Below.setCell ?_ ?_ _) | (exact (by first | (simp; done) | (simp; omega) | omega)))), fun o => kept_cells 25 (by repeat (first | (with_reducible exact Below.refl _ _) | (with_reducible assumption) | (with_reducible refine RowKit.Below.ext ?_ ?_ _) | (with_reducible refine Below.alloc ?_ ?_ _) | (with_reducible refine Below.drew ?_) | (with_reducible refine RowKit.Below.drawnN ?_ _) | (with_reducible refine Below.setCell ?_ ?_ _) | (exact (by first | (simp; done) | (simp; omega) | omega)))) rfl o⟩ ?_
  intro W ⟨hB, hcw⟩
  have QCW := Lib.hid hcw
  have QB := Lib.hid hB
  clear hcw hB
  go_loopg [2, 7] n.toNat (fun gg v2 v7 wr => ∃ (k : Nat) (t : Int), k ≤ gg ∧ v2 = .int .i64 (k + 1) ∧ v7 = .int .i64 t ∧ k ≤ 1000 ∧ -62121600000 ≤ t ∧ t < 253402300800 + 32227200 ∧ Hid (skipL r k t = RES) ∧ Hid (Below W.heap.size W wr))
  case atStart => exact ⟨(n - 1).toNat, b, by omega, by rw [show (((n - 1).toNat : Nat) : Int) + 1 = n by omega], rfl, by omega, b1, b2, HRES.out, Below.refl _ _⟩
  case round =>
    obtain ⟨k, t, hk, rfl, rfl, hk2, t1, t2, HS, HBu⟩ := hrel
    have HHK := Lib.hid hk
    clear hk
    cases k with
    | zero =>
      have q0 : ¬ (1 : Int) < ((0 : Nat) : Int) + 1 := by omega
      have HT := Lib.hid (show t = RES from HS.out)
      go_wp2
      go_ret
      exact ⟨by rw [← HT.out]; rfl, QB.out.trans (HBu.out.mono QB.out.size)⟩
    | succ k =>
      have q0 : (1 : Int) < ((k + 1 : Nat) : Int) + 1 := by omega
      by_cases q1 : t < 253402300800
      · have HS2 := Lib.hid (show skipL r k (perP r t).2 = RES by have := HS.out; unfold skipL at this; rwa [if_pos q1] at this)
        have hb := CB.out t t1 q1
        have C := Lib.hid (fun w => CP.out t w t1 q1)
        generalize (perP r t).1 = p1 at *
        generalize (perP r t).2 = p2 at *
        have QCW2 : Hid (∀ o, o < 14 → wr.cell? ⟨w.heap.size, o, none⟩ = r.cells[o]?) := fun o ho => by
          have := QCW.out o
          rw [Array.getElem?_eq_getElem (show o < r.cells.size from ho)] at this ⊢
          exact cell_of_below HBu.out this
        clear QCW HS HRES CB CP
        have QCW : Hid (∀ o, o < 14 → wr.cell? ⟨w.heap.size, o, none⟩ = r.cells[o]?) := QCW2
        clear QCW2
        have c0 := (QCW.out 0 (by omega)).trans (rfl : _ = some (Value.int .i64 r.f))
        have c1 := (QCW.out 1 (by omega)).trans (rfl : _ = some (Value.int .i64 r.iv))
        have c2 := (QCW.out 2 (by omega)).trans (rfl : _ = some (Value.int .i64 r.ct))
        have c3 := (QCW.out 3 (by omega)).trans (rfl : _ = some (Value.int .i64 r.un))
        have c4 := (QCW.out 4 (by omega)).trans (rfl : _ = some r.mo.v)
        have c5 := (QCW.out 5 (by omega)).trans (rfl : _ = some r.md.v)
        have c6 := (QCW.out 6 (by omega)).trans (rfl : _ = some r.yd.v)
        have c7 := (QCW.out 7 (by omega)).trans (rfl : _ = some r.wk.v)
        have c8 := (QCW.out 8 (by omega)).trans (rfl : _ = some r.dy.v)
        have c9 := (QCW.out 9 (by omega)).trans (rfl : _ = some r.ho.v)
        have c10 := (QCW.out 10 (by omega)).trans (rfl : _ = some r.mi.v)
        have c11 := (QCW.out 11 (by omega)).trans (rfl : _ = some r.se.v)
        have c12 := (QCW.out 12 (by omega)).trans (rfl : _ = some r.po.v)
        have c13 := (QCW.out 13 (by omega)).trans (rfl : _ = some (Value.int .i64 r.ws))
        have hbs := HBu.out.size
        have hfd := fun w => field95 p1 p2 w
        go_wp2_with fail
        refine (C.out _).mono ?_
        rintro e w1 ⟨rfl, hb1⟩; obtain ⟨x, rfl⟩ := hb1.toExt; clear hb1
        go_wp2
        go_roundg k
        case measure => have := HHK.out; omega
        case rel => exact ⟨k, p2, by omega, rfl, rfl, by omega, by omega, by omega, HS2.out, HBu.out.ext HBu.out.size _⟩
      · have HT := Lib.hid (show t = RES by have := HS.out; unfold skipL at this; rwa [if_neg q1] at this)
        go_wp2
        go_ret
        exact ⟨by rw [← HT.out]; rfl, QB.out.trans (HBu.out.mono QB.out.size)⟩
end Go.Proofs.YthilkphnjffnhaaGreat
