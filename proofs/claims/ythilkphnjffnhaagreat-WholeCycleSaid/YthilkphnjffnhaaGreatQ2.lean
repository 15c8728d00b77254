/- The walks of days and of the function that it makes. -/
import Derived.Test.YthilkphnjffnhaaGreatJJ
namespace Go.Proofs.YthilkphnjffnhaaGreat
open Go.RowKit
attribute [local go_sem] Oper.semAt_some
set_option linter.unusedVariables false
set_option linter.unusedSimpArgs false
theorem Lim.cell {S : FP} {W W' : World} (h : Lim S W W') {a : Addr} {v : Value} (hc : W.cell? a = some v) (hn : ¬ S a.block) : W'.cell? a = some v :=
  (World.cell?_of_block (h.block _ (World.block_lt_of_cell? W a hc) hn)).trans hc
theorem Step.cell {C C' : FP} {W W' : World} (h : Step C C' W W') {a : Addr} {v : Value} (hc : W.cell? a = some v) (hn : ¬ C a.block) : W'.cell? a = some v := h.lim.cell hc hn

/-- a, a + 1, .. up to b -/
def upL (a b : Int) : List Int := (List.range (b - a).toNat).map fun i => a + (i : Nat)
theorem upL_length (a b : Int) : (upL a b).length = (b - a).toNat := by simp [upL]
theorem upL_get (a b : Int) (k : Nat) (h : k < (upL a b).length) : (upL a b)[k] = a + k := by simp [upL]
theorem upL_take_succ (a b : Int) (k : Nat) (h : k < (upL a b).length) : (upL a b).take (k + 1) = (upL a b).take k ++ [a + (k : Int)] := by
  rw [← upL_get a b k h]; exact (List.take_append_getElem h).symm
theorem upL_mem {a b x : Int} (h : x ∈ upL a b) : a ≤ x ∧ x < b := by
  simp only [upL, List.mem_map, List.mem_range] at h
  obtain ⟨i, hi, rfl⟩ := h
  omega

set_option maxRecDepth 100000 in
set_option maxHeartbeats 4000000 in
theorem days_seq (b1 b2 : Nat) (from_ to_ : Int) (w : World) (h1 : w.cell? ⟨b1, 0, none⟩ = some (.int .i64 from_)) (h2 : w.cell? ⟨b2, 0, none⟩ = some (.int .i64 to_))
    (q1 : -100000000 ≤ from_) (q2 : from_ ≤ 100000000) (q3 : -100000000 ≤ to_) (q4 : to_ ≤ 100000000) :
    SeqS Tryz.prog 84 #[.pointer (some ⟨b1, 0, none⟩), .pointer (some ⟨b2, 0, none⟩)] (fun x : Int => #[.int .i64 x]) (upL (max from_ (-719162)) (min to_ 2932897)) (fun k => k = b1 ∨ k = b2) w := by
  intro l J Jx C W hW hC sJ sJx hY h0
  have c1 := hW.cell h1 (fun h => h (.inl rfl))
  have c2 := hW.cell h2 (fun h => h (.inr rfl))
  have n1 : ¬ C b1 := fun h => (hC _ h).1 (.inl rfl)
  have n2 : ¬ C b2 := fun h => (hC _ h).1 (.inr rfl)
  obtain ⟨a, ha⟩ : ∃ a, a = max from_ (-719162) := ⟨_, rfl⟩
  obtain ⟨b, hb⟩ : ∃ b, b = min to_ 2932897 := ⟨_, rfl⟩
  have hab : -100000000 ≤ a ∧ a ≤ 100000000 ∧ -100000000 ≤ b ∧ b ≤ 100000000 := by omega
  obtain ⟨ab1, ab2, ab3, ab4⟩ := hab
  rw [← ha, ← hb] at hY ⊢
  have HA := Lib.hid ha
  have HB := Lib.hid hb
  clear ha hb
  have hs0 : Step C C W W := Step.refl (fun k hk => (hC k hk).2)
  have HY := Lib.hid (hY 2)
  have C2 := Lib.hid c2
  clear hY h1 h2 q1 q2 q3 q4 hC sJ sJx hW
  refine (callsIn_wide (n := 3)).1 ?_
  refine callsIn_of_wp Tryz.func84 rfl trivial ?_ rfl
  simp only [Tryz.ntmps84, List.size_toArray, List.length_cons, List.length_nil, Nat.reduceAdd, Nat.reduceSub, Array.replicate_succ, Array.replicate_zero, List.push_toArray, List.append_toArray, List.nil_append, List.cons_append]
  gi_wp2
  rw [← HA.out]
  gi_loopw [4] (fun v4 wr => ∃ (k : Nat) (C' : FP), v4 = .int .i64 (a + k) ∧ k ≤ (b - a).toNat ∧ J ((upL a b).take k) C' wr ∧ Step C C' W wr) (fun v4 _ => (b - intOf v4).toNat)
  case atStart => exact ⟨0, C, by simp, by omega, by simpa using h0, hs0⟩
  case round =>
    obtain ⟨k, C', rfl, hk, hJ, hst⟩ := hrel
    have c2' := hst.cell C2.out n2
    by_cases hlt : a + k < b
    · have hkl : k < (upL a b).length := by rw [upL_length]; omega
      have hmin : a + k < min to_ 2932897 := by rw [← HB.out]; exact hlt
      obtain ⟨fn, tmps, assign, body, hy, hR⟩ := HY.out _ (a + k) C' wr hJ hst.fin (by have := hst.lim.size; exact this) (by rw [← upL_take_succ a b k hkl]; exact List.take_prefix _ _)
      have HR := Lib.hid hR
      clear hR
      gi_wp2
      refine HR.out.mono ?_
      rintro e W3 ⟨C3, hs3, (⟨rfl, hJ3⟩ | ⟨rfl, hJx3⟩)⟩
      · gi_wp2
        go_roundw
        case rel => exact ⟨k + 1, C3, by rw [Int.add_assoc]; rfl, by omega, by rw [upL_take_succ a b k hkl]; exact hJ3, hst.trans hs3⟩
        case measure => simp [intOf]; omega
      · gi_wp2
        refine bodyPost_ret (results_none rfl _ _ _) rfl ?_
        exact ⟨⟨_, rfl⟩, C3, hst.trans hs3, .inr ⟨_, by rw [← upL_take_succ a b k hkl]; exact List.take_prefix _ _, hJx3⟩⟩
    · have hmin : min to_ 2932897 ≤ a + k := by rw [← HB.out]; omega
      have hall : (upL a b).take k = upL a b := List.take_of_length_le (by rw [upL_length]; omega)
      rw [hall] at hJ
      gi_wp2
      go_end0
      exact ⟨⟨_, rfl⟩, C', hst, .inl hJ⟩

/-- the first day of the period, and the one behind it -/
noncomputable def dFrom (r : Rc) (d : Int) : Int :=
  if r.f = 1 ∧ 0 < r.wk.l.length then fw (wyr d r.ws) r.ws else if r.f = 1 then d - (diP d).inY + 1 else if r.f = 2 then d - (diP d).inM + 1 else if r.f = 3 then wkS d r.ws else d
noncomputable def dTo (r : Rc) (d : Int) : Int :=
  if r.f = 1 ∧ 0 < r.wk.l.length then fw (wyr d r.ws + 1) r.ws else if r.f = 1 then d - (diP d).inY + 1 + (diP d).ofY else if r.f = 2 then d - (diP d).inM + 1 + (diP d).ofM else if r.f = 3 then wkS d r.ws + 7 else d + 1

def RetD (a b : Int) (w : World) : Ending → World → Prop := fun e w' => ∃ b1 b2, e = .returned (.func (.func 84) #[] #[.pointer (some ⟨b1, 0, none⟩), .pointer (some ⟨b2, 0, none⟩)]) ∧
  w'.cell? ⟨b1, 0, none⟩ = some (.int .i64 a) ∧ w'.cell? ⟨b2, 0, none⟩ = some (.int .i64 b) ∧ w.heap.size ≤ b1 ∧ w.heap.size ≤ b2 ∧ Below w.heap.size w w'

set_option maxRecDepth 100000 in
set_option maxHeartbeats 8000000 in
theorem days_any (r : Rc) (l : Int) (w : World) (h1 : 1 ≤ r.f) (h2 : r.f ≤ 5) (h3 : 1 ≤ r.ws) (h4 : r.ws ≤ 7) (h5 : -62121600000 ≤ l) (h6 : l < 253402300800) :
    Calls Tryz.prog 59 #[r.val, .int .i64 l] w (RetD (dFrom r (l / 86400)) (dTo r (l / 86400)) w) := by
  have q1 : -719000 ≤ l / 86400 := by omega
  have q2 : l / 86400 < 2932897 := by omega
  have CD := Lib.hid (fun w => dateof_any (l / 86400) w (by omega) q2)
  have HX := diP_ok (l / 86400) q1 q2
  obtain ⟨x1, x2, x3, x4, x5, x6, x7, x8, x9, x10, x11, x12⟩ := HX
  have kF : dFrom r (l / 86400) = if r.f = 1 ∧ 0 < r.wk.l.length then fw (wyr (l / 86400) r.ws) r.ws else if r.f = 1 then l / 86400 - (diP (l / 86400)).inY + 1 else if r.f = 2 then l / 86400 - (diP (l / 86400)).inM + 1 else if r.f = 3 then wkS (l / 86400) r.ws else l / 86400 := rfl
  have kT : dTo r (l / 86400) = if r.f = 1 ∧ 0 < r.wk.l.length then fw (wyr (l / 86400) r.ws + 1) r.ws else if r.f = 1 then l / 86400 - (diP (l / 86400)).inY + 1 + (diP (l / 86400)).ofY else if r.f = 2 then l / 86400 - (diP (l / 86400)).inM + 1 + (diP (l / 86400)).ofM else if r.f = 3 then wkS (l / 86400) r.ws + 7 else l / 86400 + 1 := rfl
  generalize dFrom r (l / 86400) = A at kF ⊢
  generalize dTo r (l / 86400) = B at kT ⊢
  generalize diP (l / 86400) = X at *
  obtain ⟨xy, xm, xd, xday, xinY, xofY, xinM, xofM⟩ := X
  have hc : r.f = 1 ∨ r.f = 2 ∨ r.f = 3 ∨ r.f = 4 ∨ r.f = 5 := by omega
  clear h1 h2
  obtain ⟨f, iv, ct, un, mo1, md, yd, wk, dy, ho, mi, se, po, ws⟩ := r
  dsimp only [Rc.val, Rc.cells, DI.v] at *
  rcases hc with rfl | rfl | rfl | rfl | rfl
  · by_cases hw : 0 < wk.l.length
    · have k1 : A = fw (wyr (l / 86400) ws) ws := by rw [kF]; simp [hw]
      have k2 : B = fw (wyr (l / 86400) ws + 1) ws := by rw [kT]; simp [hw]
      clear kF kT
      have hy := wyr_bd (l / 86400) ws q1 q2
      have CF := Lib.hid (fun w => firstweek_any (wyr (l / 86400) ws) ws w (by omega) (by omega) h3 h4)
      have CF1 := Lib.hid (fun w => firstweek_any (wyr (l / 86400) ws + 1) ws w (by omega) (by omega) h3 h4)
      have CW := Lib.hid (fun w => weekyear_any (l / 86400) ws w q1 q2 h3 h4)
      rw [← k1] at CF
      rw [← k2] at CF1
      clear k1 k2
      generalize wyr (l / 86400) ws = Y at *
      go_enter Tryz.func59, Tryz.ntmps59
      go_wp2_with fail
      refine (floor_any l 86400 _ (by omega) (by omega) (by omega) (by omega)).mono ?_
      rintro e w1 ⟨rfl, nd, rfl⟩
      go_wp2_with fail
      refine (CD.out _).mono ?_
      rintro e w1 ⟨rfl, hb1⟩; obtain ⟨x, rfl⟩ := hb1.toExt; clear hb1
      go_wp2_with fail
      refine (CW.out _).mono ?_
      rintro e w2 ⟨rfl, hb2⟩; obtain ⟨x2, rfl⟩ := hb2.toExt; clear hb2
      go_wp2_with (refine wp_region_calm_tail 9 (by kernel_rfl) (by kernel_rfl) ?_)
      simp only [List.take_succ_cons, List.take_zero, List.drop_succ_cons, List.drop_zero]
      repeat (go_big_quiet_step (first | (with_reducible exact Calls.calm_of_drew (CF.out _)) | (with_reducible exact Calls.calm_of_drew (CF1.out _))))
      refine wpQuiet_nil ?_
      rintro _ ⟨xx, rfl⟩
      go_wp2
      go_ret
      exact ⟨_, _, rfl, by go_simp, by go_simp, (by first | (simp; done) | (simp; omega) | omega), (by first | (simp; done) | (simp; omega) | omega), (by repeat (first | (with_reducible exact Below.refl _ _) | (with_reducible assumption) | (with_reducible refine RowKit.Below.ext ?_ ?_ _) | (with_reducible refine Below.alloc ?_ ?_ _) | (with_reducible refine Below.drew ?_) | (with_reducible refine RowKit.Below.drawnN ?_ _) | (with_reducible refine Below.setCell ?_ ?_ _) | (exact (by first | (simp; done) | (simp; omega) | omega))))⟩
    · have k1 : A = l / 86400 - xinY + 1 := by rw [kF]; simp [hw]
      have k2 : B = l / 86400 - xinY + 1 + xofY := by rw [kT]; simp [hw]
      clear kF kT
      subst k1 k2
      go_enter Tryz.func59, Tryz.ntmps59
      go_wp2_with fail
      refine (floor_any l 86400 _ (by omega) (by omega) (by omega) (by omega)).mono ?_
      rintro e w1 ⟨rfl, nd, rfl⟩
      go_wp2_with fail
      refine (CD.out _).mono ?_
      rintro e w1 ⟨rfl, hb1⟩; obtain ⟨x, rfl⟩ := hb1.toExt; clear hb1
      go_wp2
      go_ret
      exact ⟨_, _, rfl, by go_simp, by go_simp, (by first | (simp; done) | (simp; omega) | omega), (by first | (simp; done) | (simp; omega) | omega), (by repeat (first | (with_reducible exact Below.refl _ _) | (with_reducible assumption) | (with_reducible refine RowKit.Below.ext ?_ ?_ _) | (with_reducible refine Below.alloc ?_ ?_ _) | (with_reducible refine Below.drew ?_) | (with_reducible refine RowKit.Below.drawnN ?_ _) | (with_reducible refine Below.setCell ?_ ?_ _) | (exact (by first | (simp; done) | (simp; omega) | omega))))⟩
  · have k1 : A = l / 86400 - xinM + 1 := by rw [kF]; simp
    have k2 : B = l / 86400 - xinM + 1 + xofM := by rw [kT]; simp
    clear kF kT
    subst k1 k2
    go_enter Tryz.func59, Tryz.ntmps59
    go_wp2_with fail
    refine (floor_any l 86400 _ (by omega) (by omega) (by omega) (by omega)).mono ?_
    rintro e w1 ⟨rfl, nd, rfl⟩
    go_wp2_with fail
    refine (CD.out _).mono ?_
    rintro e w1 ⟨rfl, hb1⟩; obtain ⟨x, rfl⟩ := hb1.toExt; clear hb1
    go_wp2
    go_ret
    exact ⟨_, _, rfl, by go_simp, by go_simp, (by first | (simp; done) | (simp; omega) | omega), (by first | (simp; done) | (simp; omega) | omega), (by repeat (first | (with_reducible exact Below.refl _ _) | (with_reducible assumption) | (with_reducible refine RowKit.Below.ext ?_ ?_ _) | (with_reducible refine Below.alloc ?_ ?_ _) | (with_reducible refine Below.drew ?_) | (with_reducible refine RowKit.Below.drawnN ?_ _) | (with_reducible refine Below.setCell ?_ ?_ _) | (exact (by first | (simp; done) | (simp; omega) | omega))))⟩
  · have k1 : A = wkS (l / 86400) ws := by rw [kF]; simp
    have k2 : B = wkS (l / 86400) ws + 7 := by rw [kT]; simp
    clear kF kT
    subst k1 k2
    have hb := wkS_bd (l / 86400) ws
    go_enter Tryz.func59, Tryz.ntmps59
    go_wp2_with fail
    refine (floor_any l 86400 _ (by omega) (by omega) (by omega) (by omega)).mono ?_
    rintro e w1 ⟨rfl, nd, rfl⟩
    go_wp2_with fail
    refine (CD.out _).mono ?_
    rintro e w1 ⟨rfl, hb1⟩; obtain ⟨x, rfl⟩ := hb1.toExt; clear hb1
    go_wp2_with fail
    refine (rweek_any (l / 86400) ws _ (by omega) (by omega) h3 h4).mono ?_
    rintro e w2 ⟨rfl, n2, rfl⟩
    go_wp2
    go_ret
    exact ⟨_, _, rfl, by go_simp, by go_simp, (by first | (simp; done) | (simp; omega) | omega), (by first | (simp; done) | (simp; omega) | omega), (by repeat (first | (with_reducible exact Below.refl _ _) | (with_reducible assumption) | (with_reducible refine RowKit.Below.ext ?_ ?_ _) | (with_reducible refine Below.alloc ?_ ?_ _) | (with_reducible refine Below.drew ?_) | (with_reducible refine RowKit.Below.drawnN ?_ _) | (with_reducible refine Below.setCell ?_ ?_ _) | (exact (by first | (simp; done) | (simp; omega) | omega))))⟩
  · have k1 : A = l / 86400 := by rw [kF]; simp
    have k2 : B = l / 86400 + 1 := by rw [kT]; simp
    clear kF kT
    subst k1 k2
    go_enter Tryz.func59, Tryz.ntmps59
    go_wp2_with fail
    refine (floor_any l 86400 _ (by omega) (by omega) (by omega) (by omega)).mono ?_
    rintro e w1 ⟨rfl, nd, rfl⟩
    go_wp2_with fail
    refine (CD.out _).mono ?_
    rintro e w1 ⟨rfl, hb1⟩; obtain ⟨x, rfl⟩ := hb1.toExt; clear hb1
    go_wp2
    go_ret
    exact ⟨_, _, rfl, by go_simp, by go_simp, (by first | (simp; done) | (simp; omega) | omega), (by first | (simp; done) | (simp; omega) | omega), (by repeat (first | (with_reducible exact Below.refl _ _) | (with_reducible assumption) | (with_reducible refine RowKit.Below.ext ?_ ?_ _) | (with_reducible refine Below.alloc ?_ ?_ _) | (with_reducible refine Below.drew ?_) | (with_reducible refine RowKit.Below.drawnN ?_ _) | (with_reducible refine Below.setCell ?_ ?_ _) | (exact (by first | (simp; done) | (simp; omega) | omega))))⟩
  · have k1 : A = l / 86400 := by rw [kF]; simp
    have k2 : B = l / 86400 + 1 := by rw [kT]; simp
    clear kF kT
    subst k1 k2
    go_enter Tryz.func59, Tryz.ntmps59
    go_wp2_with fail
    refine (floor_any l 86400 _ (by omega) (by omega) (by omega) (by omega)).mono ?_
    rintro e w1 ⟨rfl, nd, rfl⟩
    go_wp2_with fail
    refine (CD.out _).mono ?_
    rintro e w1 ⟨rfl, hb1⟩; obtain ⟨x, rfl⟩ := hb1.toExt; clear hb1
    go_wp2
    go_ret
    exact ⟨_, _, rfl, by go_simp, by go_simp, (by first | (simp; done) | (simp; omega) | omega), (by first | (simp; done) | (simp; omega) | omega), (by repeat (first | (with_reducible exact Below.refl _ _) | (with_reducible assumption) | (with_reducible refine RowKit.Below.ext ?_ ?_ _) | (with_reducible refine Below.alloc ?_ ?_ _) | (with_reducible refine Below.drew ?_) | (with_reducible refine RowKit.Below.drawnN ?_ _) | (with_reducible refine Below.setCell ?_ ?_ _) | (exact (by first | (simp; done) | (simp; omega) | omega))))⟩
end Go.Proofs.YthilkphnjffnhaaGreat
