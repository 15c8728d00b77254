/- What the iterator of the occurrences hands out. -/
import Derived.Test.YthilkphnjffnhaaGreatE17
import Derived.Test.YthilkphnjffnhaaGreatW7
namespace Go.Proofs.YthilkphnjffnhaaGreat
open Go.RowKit
set_option linter.unusedVariables false
set_option linter.unusedSimpArgs false
theorem skipL_bd (r : Rc) (h3 : 1 ≤ r.ws) (h4 : r.ws ≤ 7) : ∀ (k : Nat) (t : Int), -62121600000 ≤ t → t < 253402300800 + 32227200 → t ≤ skipL r k t ∧ skipL r k t < 253402300800 + 32227200 := by
  intro k
  induction k with
  | zero => intro t h1 h2; exact ⟨Int.le_refl _, h2⟩
  | succ k ih =>
    intro t h1 h2
    unfold skipL
    split
    · rename_i h
      have hb := perP_bd r t h1 h h3 h4
      have := ih (perP r t).2 (by omega) (by omega)
      omega
    · exact ⟨Int.le_refl _, h2⟩
theorem perP_short (r : Rc) (l : Int) (h : r.f = 3 ∨ r.f = 4 ∨ r.f = 5) : (perP r l).2 - (perP r l).1 = if r.f = 3 then 604800 else if r.f = 4 then 86400 else 3600 := by
  unfold perP
  by_cases h5 : r.f = 5
  · rw [if_pos h5, if_neg (by omega), if_neg (by omega)]; dsimp only; omega
  · rw [if_neg h5]
    unfold perD
    rw [if_neg (by omega), if_neg (by omega)]
    by_cases h3 : r.f = 3
    · rw [if_pos h3, if_pos h3]; dsimp only; omega
    · rw [if_neg h3, if_neg h3, if_pos (by omega)]; dsimp only; omega
theorem skipP_bd (r : Rc) (l n : Int) (h1 : -62121600000 ≤ l - 32227200) (h2 : l < 253402300800) (h3 : 1 ≤ r.ws) (h4 : r.ws ≤ 7) (n1 : 1 ≤ n) (n2 : n ≤ 1000) : l < skipP r (perP r l) n ∧ skipP r (perP r l) n < 254100000000 := by
  have hb := perP_bd r l (by omega) h2 h3 h4
  unfold skipP
  by_cases e3 : r.f = 3
  · have := perP_short r l (by omega)
    rw [if_pos e3] at this ⊢; omega
  rw [if_neg e3]
  by_cases e4 : r.f = 4
  · have := perP_short r l (by omega)
    rw [if_neg e3, if_pos e4] at this; rw [if_pos e4]; omega
  rw [if_neg e4]
  by_cases e5 : r.f = 5
  · have := perP_short r l (by omega)
    rw [if_neg e3, if_neg e4] at this; rw [if_pos e5]; omega
  rw [if_neg e5]
  have := skipL_bd r h3 h4 (n - 1).toNat (perP r l).2 (by omega) (by omega)
  omega

theorem cycP_bd (r : Rc) (f1 : 1 ≤ r.f) (f5 : r.f ≤ 5) (i1 : 1 ≤ r.iv) (i2 : r.iv ≤ 1000) : 1 ≤ cycP r ∧ cycP r ≤ 12622780800000 := by
  unfold cycP
  by_cases h : (repP r).2 = true
  · rw [if_pos h]
    unfold repP at h ⊢
    by_cases a : noL r ∧ r.f = 3
    · rw [if_pos a] at h ⊢; dsimp only; omega
    · rw [if_neg a] at h ⊢
      by_cases b : noL r ∧ (r.f = 4 ∨ r.f = 5)
      · rw [if_pos b] at h ⊢
        have h' : lcmP r ≤ 12622780800 := by simpa using h
        refine ⟨?_, by dsimp only; omega⟩
        dsimp only
        unfold lcmP
        have hu : 1 ≤ (unitP r.f).toNat := by
          unfold unitP
          rcases b.2 with e | e
          · rw [if_pos e]; omega
          · rw [if_neg (by omega), if_pos e]; omega
        have hi : 1 ≤ r.iv.toNat := by omega
        have h1 : 1 ≤ (unitP r.f).toNat * r.iv.toNat := Nat.mul_pos hu hi
        have h2 : 1 ≤ 604800 / Nat.gcd ((unitP r.f).toNat * r.iv.toNat) 604800 := by
          have g1 : Nat.gcd ((unitP r.f).toNat * r.iv.toNat) 604800 ≤ 604800 := Nat.gcd_le_right _ (by omega)
          have g2 : 0 < Nat.gcd ((unitP r.f).toNat * r.iv.toNat) 604800 := Nat.gcd_pos_of_pos_left _ h1
          exact Nat.div_pos g1 g2
        have h3 : 1 ≤ (unitP r.f).toNat * r.iv.toNat * (604800 / Nat.gcd ((unitP r.f).toNat * r.iv.toNat) 604800) := Nat.mul_pos h1 h2
        exact_mod_cast h3
      · rw [if_neg b] at h ⊢; dsimp only; omega
  · rw [if_neg h]; omega

/-- the occurrences that are handed out of a list; and whether no more are asked for -/
def feed (t fr un to : Int) : List Int → List Int × Bool
  | [] => ([], false)
  | x :: xs => if x < t ∨ x < fr then feed t fr un to xs else if (un ≠ 0 ∧ un < x) ∨ to ≤ x then ([], true) else (x :: (feed t fr un to xs).1, (feed t fr un to xs).2)
noncomputable def restG (r : Rc) (t l : Int) : Int := (numP r (max (perP r l).1 (-62135596800)) - numP r t) % r.iv
noncomputable def offG (r : Rc) (t l : Int) : Bool := decide (r.f = 5) && !passP r (diP (t / 86400)) (l / 86400)
noncomputable def candG (r : Rc) (t l : Int) : List Int := candP r (diP (t / 86400)) (perP r l).1 (perP r l).2 (timesP r.f r.ho.l r.mi.l r.se.l (t % 86400)) (upL (max (perP r l).1 (-62135596800) / 86400) ((min (perP r l).2 253402300800 + 86399) / 86400))
noncomputable def listG (r : Rc) (t l : Int) : List Int := if restG r t l ≠ 0 then [] else if offG r t l = true then [] else chosenP r (candG r t l)
noncomputable def nextG (r : Rc) (t l : Int) : Int := if restG r t l ≠ 0 then skipP r (perP r l) (r.iv - restG r t l) else if offG r t l = true then 86400 * (l / 86400 + 1) else (perP r l).2
def condG (r : Rc) (to at_ lim : Int) : Prop := (at_ < to ∧ at_ < lim) ∧ (r.un = 0 ∨ at_ ≤ r.un)
inductive Gen (r : Rc) (t fr to : Int) : Int → Int → List Int → Prop
  | stop (at_ lim : Int) : ¬ condG r to at_ lim → Gen r t fr to at_ lim []
  | last (at_ lim : Int) : condG r to at_ lim → (feed t fr r.un to (listG r t at_)).2 = true → Gen r t fr to at_ lim (feed t fr r.un to (listG r t at_)).1
  | next (at_ lim : Int) (L : List Int) : condG r to at_ lim → (feed t fr r.un to (listG r t at_)).2 = false →
      Gen r t fr to (nextG r t at_) (if (feed t fr r.un to (listG r t at_)).1 = [] then lim else 253402300800) L → Gen r t fr to at_ lim ((feed t fr r.un to (listG r t at_)).1 ++ L)

theorem restG_bd (r : Rc) (t l : Int) (i1 : 1 ≤ r.iv) : 0 ≤ restG r t l ∧ restG r t l < r.iv := by
  unfold restG
  exact ⟨Int.emod_nonneg _ (by omega), Int.emod_lt_of_pos _ (by omega)⟩
theorem nextG_bd (r : Rc) (t l : Int) (hk : r.Ok) (h1 : -62121600000 ≤ l - 32227200) (h2 : l < 253402300800) : l < nextG r t l ∧ nextG r t l < 254100000000 := by
  have hb := perP_bd r l (by omega) h2 hk.s1 hk.s7
  have hr := restG_bd r t l hk.i1
  have hi := hk.i2
  unfold nextG
  split
  · exact skipP_bd r l _ h1 h2 hk.s1 hk.s7 (by omega) (by omega)
  · split
    · omega
    · omega
theorem Gen.total (r : Rc) (t fr to : Int) (hk : r.Ok) (hto : to ≤ 253402300800) : ∀ (n : Nat) (at_ lim : Int), (254200000000 - at_).toNat ≤ n → -62121600000 ≤ at_ - 32227200 → ∃ L, Gen r t fr to at_ lim L := by
  intro n
  induction n with
  | zero =>
    intro at_ lim h1 h2
    exact ⟨_, .stop _ _ (fun h => by have := h.1.1; omega)⟩
  | succ n ih =>
    intro at_ lim h1 h2
    by_cases hc : condG r to at_ lim
    · have hb := nextG_bd r t at_ hk h2 (by have := hc.1.1; omega)
      cases hf : (feed t fr r.un to (listG r t at_)).2
      · obtain ⟨L, hL⟩ := ih (nextG r t at_) (if (feed t fr r.un to (listG r t at_)).1 = [] then lim else 253402300800) (by omega) (by omega)
        exact ⟨_, .next _ _ L hc hf hL⟩
      · exact ⟨_, .last _ _ hc hf⟩
    · exact ⟨_, .stop _ _ hc⟩
/-- the occurrences -/
def AllL (r : Rc) (t fr to : Int) (L : List Int) : Prop :=
  (neverP r (timesP r.f r.ho.l r.mi.l r.se.l (t % 86400)) = true ∧ L = []) ∨ (neverP r (timesP r.f r.ho.l r.mi.l r.se.l (t % 86400)) = false ∧ Gen r t fr to (max t fr) (max t fr + cycP r) L)
theorem AllL.total (r : Rc) (t fr to : Int) (hk : r.Ok) (hto : to ≤ 253402300800) (ht : -62121600000 ≤ t - 32227200) : ∃ L, AllL r t fr to L := by
  cases h : neverP r (timesP r.f r.ho.l r.mi.l r.se.l (t % 86400))
  · obtain ⟨L, hL⟩ := Gen.total r t fr to hk hto _ (max t fr) (max t fr + cycP r) (Nat.le_refl _) (by omega)
    exact ⟨L, .inr ⟨h, hL⟩⟩
  · exact ⟨[], .inl ⟨h, rfl⟩⟩
end Go.Proofs.YthilkphnjffnhaaGreat
/- What is the iterator's own stays as it is, whatever its caller does. -/
namespace Go.Proofs.YthilkphnjffnhaaGreat
open Go.RowKit
set_option linter.unusedVariables false
set_option linter.unusedSimpArgs false
set_option maxHeartbeats 1000000 in
theorem div_one (a b : Int) (w : World) (hb : b = 1) (h1 : -4611686018427387904 < a) (h2 : a < 4611686018427387904) :
    Calls Tryz.prog 35 #[.int .i64 a, .int .i64 b] w fun e w' => e = .returned (.tuple #[.int .i64 (a / b), .int .i64 (a % b), .int .i64 0]) ∧ ∃ n, w' = w.drewN n := by
  have hq : wrap64 (a.tdiv b) = a.tdiv b := by rw [hb, Int.tdiv_one]; exact wrap64_id _ (by omega) (by omega)
  have c1 : (b == 0) = false := beq_eq_false_iff_ne.mpr (by omega)
  have c2 : (a == -9223372036854775808) = false := beq_eq_false_iff_ne.mpr (by omega)
  have c3 : decide (b < 0) = false := by simp; omega
  have c4 : (a.tmod b != 0) = false := by rw [hb, Int.tmod_one]; rfl
  have R : Ending.returned (.tuple #[.int .i64 (a.tdiv b), .int .i64 (a.tmod b), .int .i64 0]) = .returned (.tuple #[.int .i64 (a / b), .int .i64 (a % b), .int .i64 0]) := by
    rw [hb, Int.tdiv_one, Int.tmod_one, Int.ediv_one, Int.emod_one]
  have HR := Lib.hid R
  have hb1 : 1 ≤ b := by omega
  have hb2 : b ≤ 1000000000000 := by omega
  clear R hb
  go_enter Tryz.func35, Tryz.ntmps35
  go_wp2
  go_quiet (fail)
  go_wp2
  go_ret3
  exact ⟨HR.out, _, rfl⟩
theorem mod_pos (a b : Int) (w : World) (hb : 1 ≤ b) (hb2 : b ≤ 1000000000000) (h1 : -4611686018427387904 < a) (h2 : a < 4611686018427387904) :
    Calls Tryz.prog 30 #[.int .i64 a, .int .i64 b] w fun e w' => e = .returned (.int .i64 (a % b)) ∧ ∃ n, w' = w.drewN n := by
  by_cases h : 2 ≤ b
  · exact mod_any a b w h hb2 h1 h2
  · have hb : b = 1 := by omega
    have C := Lib.hid (fun w => div_one a b w hb h1 h2)
    clear hb h hb2 h1 h2
    go_enter Tryz.func30, Tryz.ntmps30
    go_wp2_with fail
    refine (C.out _).mono ?_
    rintro e w' ⟨rfl, n, rfl⟩
    go_wp2
    go_ret
    exact ⟨rfl, _, rfl⟩
/-- a slice that lies outside of C -/
def Mine (s : SlI) (C : FP) (W : World) : Prop := s.In W ∧ (s.l ≠ [] → ∀ a, s.A = some a → ¬ C a.block)
theorem Mine.step {s : SlI} {C C' : FP} {W W' : World} (h : Mine s C W) (hs : Step C C' W W') : Mine s C' W' := by
  obtain ⟨⟨h1, h2, h3⟩, h4⟩ := h
  refine ⟨⟨h1, h2, fun hn => ?_⟩, fun hn a ha hc => ?_⟩
  · obtain ⟨b, off, e, hcell⟩ := h3 hn
    exact ⟨b, off, e, fun i hi => hs.cell (hcell i hi) (fun hc => h4 hn _ e hc)⟩
  · obtain ⟨b, off, e, hcell⟩ := h3 hn
    have hlt := World.block_lt_of_cell? W _ (hcell 0 (List.length_pos_iff.2 hn))
    rw [e] at ha
    cases ha
    exact h4 hn _ e (hs.old _ hc hlt)
theorem Mine.below {s : SlI} {C : FP} {W W' : World} (h : Mine s C W) (hb : Below W.heap.size W W') : Mine s C W' := ⟨h.1.below hb, h.2⟩
theorem Mine.of {s : SlI} {C : FP} {W : World} {n : Nat} (h : s.In W) (hn : ∀ a, s.A = some a → n ≤ a.block) (hC : ∀ k, C k → k < n) : Mine s C W :=
  ⟨h, fun _ a ha hc => by have := hn a ha; have := hC _ hc; omega⟩
theorem Stab.below {β : Type} {n0 : Nat} {J : β → FP → World → Prop} (h : Stab n0 J) {s : β} {C : FP} {W W' : World} (hj : J s C W) (hf : ∀ k, C k → k < W.heap.size) (hn : n0 ≤ W.heap.size) (hb : Below W.heap.size W W') : J s C W' :=
  h s C W W' hj hf hn (Lim.of_below hb (fun k h1 h2 => by omega))
theorem Step.own {C C' : FP} {w A B : World} (h : Step C C' w A) (hb : Below A.heap.size A B) : Step C C' w B :=
  h.other (Lim.of_below hb (fun k h1 h2 => by omega))

theorem feed_append (t fr un to : Int) (a b : List Int) : feed t fr un to (a ++ b) = if (feed t fr un to a).2 = true then feed t fr un to a else ((feed t fr un to a).1 ++ (feed t fr un to b).1, (feed t fr un to b).2) := by
  induction a with
  | nil => simp [feed]
  | cons x a ih =>
    have e1 : ∀ l, x < t ∨ x < fr → feed t fr un to (x :: l) = feed t fr un to l := fun l h => by simp only [feed]; rw [if_pos h]
    have e2 : ∀ l, ¬ (x < t ∨ x < fr) → (un ≠ 0 ∧ un < x) ∨ to ≤ x → feed t fr un to (x :: l) = ([], true) := fun l h h2 => by simp only [feed]; rw [if_neg h, if_pos h2]
    have e3 : ∀ l, ¬ (x < t ∨ x < fr) → ¬ ((un ≠ 0 ∧ un < x) ∨ to ≤ x) → feed t fr un to (x :: l) = (x :: (feed t fr un to l).1, (feed t fr un to l).2) := fun l h h2 => by simp only [feed]; rw [if_neg h, if_neg h2]
    rw [List.cons_append]
    by_cases h1 : x < t ∨ x < fr
    · rw [e1 _ h1, e1 _ h1, ih]
    · by_cases h2 : (un ≠ 0 ∧ un < x) ∨ to ≤ x
      · rw [e2 _ h1 h2, e2 _ h1 h2]; simp
      · rw [e3 _ h1 h2, e3 _ h1 h2, ih]
        by_cases h3 : (feed t fr un to a).2 = true
        · rw [if_pos h3, if_pos h3]
        · rw [if_neg h3, if_neg h3]; simp
theorem feed_skip {t fr un to x : Int} (h : x < t ∨ x < fr) : feed t fr un to [x] = ([], false) := by simp [feed, h]
theorem feed_stop {t fr un to x : Int} (h : ¬ (x < t ∨ x < fr)) (h2 : (un ≠ 0 ∧ un < x) ∨ to ≤ x) : feed t fr un to [x] = ([], true) := by simp only [feed]; rw [if_neg h, if_pos h2]
theorem feed_go {t fr un to x : Int} (h : ¬ (x < t ∨ x < fr)) (h2 : ¬ ((un ≠ 0 ∧ un < x) ∨ to ≤ x)) : feed t fr un to [x] = ([x], false) := by simp only [feed]; rw [if_neg h, if_neg h2]
/-- the list is cut at its k-th element -/
theorem feed_cut {t fr un to : Int} {xs : List Int} {k : Nat} (hk : k < xs.length) (h : (feed t fr un to (xs.take k)).2 = false) :
    feed t fr un to (xs.take (k + 1)) = ((feed t fr un to (xs.take k)).1 ++ (feed t fr un to [xs[k]]).1, (feed t fr un to [xs[k]]).2) ∧
    ((feed t fr un to [xs[k]]).2 = true → feed t fr un to xs = ((feed t fr un to (xs.take k)).1, true)) ∧
    ∃ R, (feed t fr un to xs).1 = (feed t fr un to (xs.take k)).1 ++ ((feed t fr un to [xs[k]]).1 ++ R) := by
  have e1 : feed t fr un to (xs.take (k + 1)) = ((feed t fr un to (xs.take k)).1 ++ (feed t fr un to [xs[k]]).1, (feed t fr un to [xs[k]]).2) := by
    rw [← List.take_append_getElem hk, feed_append, if_neg (by rw [h]; simp)]
  have e2 : feed t fr un to xs = if (feed t fr un to (xs.take (k + 1))).2 = true then feed t fr un to (xs.take (k + 1)) else ((feed t fr un to (xs.take (k + 1))).1 ++ (feed t fr un to (xs.drop (k + 1))).1, (feed t fr un to (xs.drop (k + 1))).2) := by
    rw [← feed_append, List.take_append_drop]
  refine ⟨e1, fun h2 => ?_, ?_⟩
  · rw [e2, if_pos (by rw [e1]; exact h2), e1, h2]
    have : (feed t fr un to [xs[k]]).1 = [] := by
      simp only [feed] at h2 ⊢
      split
      · rfl
      · rename_i hh
        rw [if_neg hh] at h2
        split
        · rfl
        · rename_i h4
          rw [if_neg h4] at h2
          cases h2
    rw [this, List.append_nil]
  · by_cases h3 : (feed t fr un to (xs.take (k + 1))).2 = true
    · exact ⟨[], by rw [e2, if_pos h3, e1]; simp⟩
    · exact ⟨(feed t fr un to (xs.drop (k + 1))).1, by rw [e2, if_neg h3, e1]; simp⟩
theorem candG_len (r : Rc) (t l : Int) (hk : r.Ok) (h1 : -62121600000 ≤ l) (h2 : l < 253402300800) : (candG r t l).length ≤ 200000000 := by
  have hb := perP_bd r l h1 h2 hk.s1 hk.s7
  have hl := timesP_len (f := r.f) (t % 86400) hk.lh hk.lm hk.ls
  have hc := candP_len r (diP (t / 86400)) (perP r l).1 (perP r l).2 (timesP r.f r.ho.l r.mi.l r.se.l (t % 86400)) (upL (max (perP r l).1 (-62135596800) / 86400) ((min (perP r l).2 253402300800 + 86399) / 86400))
  have hu : (upL (max (perP r l).1 (-62135596800) / 86400) ((min (perP r l).2 253402300800 + 86399) / 86400)).length ≤ 800 := by
    rw [upL_length]
    generalize (perP r l).1 = a at *
    generalize (perP r l).2 = b at *
    omega
  have : (upL (max (perP r l).1 (-62135596800) / 86400) ((min (perP r l).2 253402300800 + 86399) / 86400)).length * (timesP r.f r.ho.l r.mi.l r.se.l (t % 86400)).length ≤ 800 * 216000 := Nat.mul_le_mul hu hl
  unfold candG
  omega
theorem lens_of {r : Rc} (h : validB r = true) : r.mo.l.length ≤ 60 ∧ r.md.l.length ≤ 60 ∧ r.yd.l.length ≤ 60 ∧ r.wk.l.length ≤ 60 := by
  unfold validB at h
  simp only [Bool.and_eq_true, decide_eq_true_eq] at h
  obtain ⟨h0, h1, h2, h3, h4, _⟩ := h
  exact ⟨btwP_len h1, btwP_len h2, btwP_len h3, btwP_len h4⟩
theorem at_worldE {K : Act → World → Prop} {Q : Exit → Act → World → Prop} {a : Act} {W0 : World} (C : World → Prop) (h : C W0) (hw : ∀ W, C W → Exit.then K Q .normal a W) : Exit.then K Q .normal a W0 := hw W0 h
theorem Gen.inv_stop {r : Rc} {t fr to a lim : Int} {L : List Int} (h : Gen r t fr to a lim L) (hc : ¬ condG r to a lim) : L = [] := by
  cases h with
  | stop => rfl
  | last _ _ h1 => exact absurd h1 hc
  | next _ _ _ h1 => exact absurd h1 hc
theorem Gen.inv {r : Rc} {t fr to a lim : Int} {L : List Int} (h : Gen r t fr to a lim L) (hc : condG r to a lim) :
    ((feed t fr r.un to (listG r t a)).2 = true ∧ L = (feed t fr r.un to (listG r t a)).1) ∨
    ((feed t fr r.un to (listG r t a)).2 = false ∧ ∃ L', L = (feed t fr r.un to (listG r t a)).1 ++ L' ∧ Gen r t fr to (nextG r t a) (if (feed t fr r.un to (listG r t a)).1 = [] then lim else 253402300800) L') := by
  cases h with
  | stop _ _ h1 => exact absurd hc h1
  | last _ _ h1 h2 => exact .inl ⟨h2, rfl⟩
  | next _ _ L' h1 h2 h3 => exact .inr ⟨h2, L', rfl, h3⟩
end Go.Proofs.YthilkphnjffnhaaGreat
