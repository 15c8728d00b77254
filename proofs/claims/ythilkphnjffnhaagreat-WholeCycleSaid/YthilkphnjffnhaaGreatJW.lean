/- The rule of every tenth day. -/
import Derived.Test.YthilkphnjffnhaaGreatJV
import Derived.Test.YthilkphnjffnhaaGreatJS
import Derived.Test.YthilkphnjffnhaaGreatD1
import Derived.Test.YthilkphnjffnhaaGreatD2
namespace Go.Proofs.YthilkphnjffnhaaGreat
open Go.RowKit
set_option linter.unusedVariables false
set_option linter.unusedSimpArgs false
def noI : SlI := ⟨none, 0, []⟩
def rT : Rc := { f := 4, iv := 10, ct := 0, un := 0, mo := noI, md := noI, yd := noI, wk := noI, dy := ⟨none, 0, []⟩, ho := noI, mi := noI, se := noI, po := noI, ws := 1 }
theorem rT_pass (X : DI) (d : Int) : passP rT X d = true := by
  simp [passP, f1P, f2P, f3P, f4P, f5P, f6P, cntP, nthP, rT, noI]
theorem rT_secs : timesP rT.f rT.ho.l rT.mi.l rT.se.l (0 % 86400) = [0] := by decide
theorem rT_valid : validB rT = true := by decide
theorem rT_per (k : Int) : perP rT (86400 * k) = (86400 * k, 86400 * k + 86400) := by
  have e : 86400 * k / 86400 = k := by omega
  unfold perP
  rw [e]
  unfold perD
  simp [rT]
  omega
theorem rT_num (l : Int) : numP rT l = l / 86400 := by simp [numP, rT]
theorem rT_rest (k : Int) (h : 0 ≤ k) : restG rT 0 (86400 * k) = k % 10 := by
  unfold restG
  rw [rT_per, rT_num, rT_num]
  dsimp only
  have : max (86400 * k) (-62135596800) = 86400 * k := by omega
  rw [this]
  show (86400 * k / 86400 - 0 / 86400) % 10 = k % 10
  congr 1
  omega
theorem rT_off (k : Int) : offG rT 0 (86400 * k) = false := by simp [offG, rT]
theorem rT_cand (k : Int) (h : 0 ≤ k) (h2 : k ≤ 1000) : candG rT 0 (86400 * k) = [86400 * k] := by
  unfold candG
  rw [rT_per, rT_secs]
  dsimp only
  have m1 : max (86400 * k) (-62135596800) = 86400 * k := by omega
  have m2 : min (86400 * k + 86400) 253402300800 = 86400 * k + 86400 := by omega
  have e1 : 86400 * k / 86400 = k := by omega
  have e2 : (86400 * k + 86400 + 86399) / 86400 = k + 1 := by omega
  rw [m1, m2, e1, e2]
  have hu : upL k (k + 1) = [k] := by
    unfold upL
    rw [show (k + 1 - k).toNat = 1 by omega]
    simp
  rw [hu]
  unfold candP
  simp only [List.flatMap_cons, List.flatMap_nil, List.append_nil]
  rw [if_pos (rT_pass _ _)]
  unfold candS
  simp
  omega
theorem rT_list (k : Int) (h : 0 ≤ k) (h2 : k ≤ 1000) : listG rT 0 (86400 * k) = if k % 10 = 0 then [86400 * k] else [] := by
  unfold listG
  rw [rT_rest k h, rT_off, rT_cand k h h2]
  by_cases e : k % 10 = 0
  · rw [if_neg (by simp [e]), if_neg (by simp), if_pos e]; rfl
  · rw [if_pos e, if_neg e]
theorem rT_next (k : Int) (h : 0 ≤ k) : nextG rT 0 (86400 * k) = if k % 10 = 0 then 86400 * (k + 1) else 86400 * (k + (10 - k % 10)) := by
  unfold nextG
  rw [rT_rest k h, rT_off, rT_per]
  by_cases e : k % 10 = 0
  · rw [if_neg (by simp [e]), if_neg (by simp), if_pos e]; dsimp only; omega
  · rw [if_pos e, if_neg e]
    unfold skipP
    simp [rT]
    omega
theorem rT_feed (k : Int) (h : 0 ≤ k) (h2 : k ≤ 1000) : feed 0 (-62135596800) rT.un 253402300800 [86400 * k] = ([86400 * k], false) := by
  simp only [feed]
  rw [if_neg (by omega), if_neg (by show ¬ ((0 : Int) ≠ 0 ∧ _ ∨ _); omega)]
theorem rT_step1 (k lim : Int) (L : List Int) (h : 0 ≤ k) (h2 : k ≤ 100) (h3 : k % 10 = 0) (hl : 86400 * k < lim) (hG : Gen rT 0 (-62135596800) 253402300800 (86400 * k) lim L) :
    ∃ L', L = 86400 * k :: L' ∧ Gen rT 0 (-62135596800) 253402300800 (86400 * (k + 1)) 253402300800 L' := by
  have hc : condG rT 253402300800 (86400 * k) lim := ⟨⟨by omega, hl⟩, .inl rfl⟩
  have hI := hG.inv hc
  rw [rT_list k h (by omega), rT_next k h, if_pos h3, if_pos h3, rT_feed k h (by omega)] at hI
  rcases hI with ⟨h1, _⟩ | ⟨_, L', e, hg⟩
  · cases h1
  · exact ⟨L', e, hg⟩
theorem rT_step2 (k lim : Int) (L : List Int) (h : 0 ≤ k) (h2 : k ≤ 100) (h3 : k % 10 ≠ 0) (hl : 86400 * k < lim) (hG : Gen rT 0 (-62135596800) 253402300800 (86400 * k) lim L) :
    Gen rT 0 (-62135596800) 253402300800 (86400 * (k + (10 - k % 10))) lim L := by
  have hc : condG rT 253402300800 (86400 * k) lim := ⟨⟨by omega, hl⟩, .inl rfl⟩
  have hI := hG.inv hc
  rw [rT_list k h (by omega), rT_next k h, if_neg h3, if_neg h3] at hI
  rcases hI with ⟨h1, _⟩ | ⟨_, L', e, hg⟩
  · cases h1
  · rw [e]; exact hg
theorem rT_first (L : List Int) (hL : AllL rT 0 (-62135596800) 253402300800 L) : (takeC rT L).take 3 = [0, 864000, 1728000] := by
  have ht : takeC rT L = L := rfl
  rw [ht]
  unfold AllL at hL
  rw [rT_secs] at hL
  rcases hL with ⟨h, _⟩ | ⟨_, hG⟩
  · exact absurd h (by decide)
  · have hcy := (cycP_bd rT (by decide) (by decide) (by decide) (by decide)).1
    rw [show max (0 : Int) (-62135596800) = 86400 * 0 by decide] at hG
    generalize cycP rT = c at hG hcy
    obtain ⟨L1, rfl, g1⟩ := rT_step1 0 _ _ (by omega) (by omega) (by omega) (by omega) hG
    have g2 := rT_step2 (0 + 1) _ _ (by omega) (by omega) (by decide) (by omega) g1
    obtain ⟨L2, rfl, g3⟩ := rT_step1 10 _ _ (by omega) (by omega) (by omega) (by omega) g2
    have g4 := rT_step2 (10 + 1) _ _ (by omega) (by omega) (by decide) (by omega) g3
    obtain ⟨L3, rfl, g5⟩ := rT_step1 20 _ _ (by omega) (by omega) (by omega) (by omega) g4
    rfl
end Go.Proofs.YthilkphnjffnhaaGreat
/- What the walk of WholeCycle takes from slices. -/
namespace Go.Proofs.YthilkphnjffnhaaGreat
open Go.RowKit
set_option linter.unusedVariables false
set_option linter.unusedSimpArgs false
theorem equal_same (s1 s2 : SlI) (w : World) (h1 : s1.In w) (h2 : s2.In w) (h : s1.l = s2.l) : Calls Tryz.prog 5 #[s1.v, s2.v] w fun e w' => e = .returned (.bool true) ∧ ∃ q, w' = w.drewN q := by
  obtain ⟨A1, c1, l1⟩ := s1
  obtain ⟨A2, c2, l2⟩ := s2
  dsimp only at h
  subst h
  by_cases hl : l1 = []
  · subst hl
    refine (Tryz.slices_Equal_int_empty A1 A2 c1 0 c2 w (by simp)).mono ?_
    rintro e w' ⟨rfl, rfl⟩
    exact ⟨rfl, 0, rfl⟩
  · obtain ⟨b1, o1, e1, q1⟩ := h1.2.2 hl
    obtain ⟨b2, o2, e2, q2⟩ := h2.2.2 hl
    dsimp only at e1 e2 q1 q2
    subst e1 e2
    have hlen : l1.length ≤ 9223372036854775807 := by have := h1.2.1; dsimp only at this; omega
    refine (Tryz.slices_Equal_int b1 o1 l1.length c1 b2 o2 l1.length c2 l1 l1 w (Nat.le_refl _) (Nat.le_refl _) hlen hlen (fun j hj => ?_) (fun j hj => ?_)).mono ?_
    · rw [q1 j hj]; simp [List.getD_eq_getElem?_getD, hj]
    · rw [q2 j hj]; simp [List.getD_eq_getElem?_getD, hj]
    · rintro e w' ⟨rfl, hq⟩
      exact ⟨by simp, hq⟩
theorem feed_bd (t fr un to : Int) (l : List Int) : ∀ x ∈ (feed t fr un to l).1, t ≤ x ∧ x < to := by
  induction l with
  | nil => intro x hx; cases hx
  | cons y l ih =>
    intro x hx
    simp only [feed] at hx
    split at hx
    · exact ih x hx
    · split at hx
      · cases hx
      · rcases List.mem_cons.1 hx with rfl | hx
        · omega
        · exact ih x hx
theorem Gen.bd {r : Rc} {t fr to a lim : Int} {L : List Int} (h : Gen r t fr to a lim L) : ∀ x ∈ L, t ≤ x ∧ x < to := by
  induction h with
  | stop => intro x hx; cases hx
  | last => exact feed_bd _ _ _ _ _
  | next a lim L _ _ _ ih =>
    intro x hx
    rcases List.mem_append.1 hx with hx | hx
    · exact feed_bd _ _ _ _ _ x hx
    · exact ih x hx
theorem AllL.bd {r : Rc} {t fr to : Int} {L : List Int} (h : AllL r t fr to L) : ∀ x ∈ L, t ≤ x ∧ x < to := by
  rcases h with ⟨_, rfl⟩ | ⟨_, h⟩
  · intro x hx; cases hx
  · exact h.bd
theorem takeC_mem {r : Rc} {L : List Int} {n : Nat} {x : Int} (h : x ∈ (takeC r L).take n) : x ∈ L := by
  have h := List.mem_of_mem_take h
  unfold takeC at h
  split at h
  · exact List.mem_of_mem_take h
  · exact h
theorem FromL.total (r : Rc) (t q to : Int) (hk : r.Ok) (hto : to ≤ 253402300800) (ht : -62066476800 ≤ t) : ∃ M, FromL r t q to M := by
  by_cases h : r.ct = 0
  · obtain ⟨M, hM⟩ := AllL.total r t q to hk hto (by omega)
    exact ⟨M, .inl ⟨h, hM⟩⟩
  · obtain ⟨L, hL⟩ := AllL.total r t (-62135596800) to hk hto (by omega)
    exact ⟨_, .inr ⟨h, L, hL, rfl⟩⟩
theorem FromL.bd {r : Rc} {t q to : Int} {M : List Int} (h : FromL r t q to M) : ∀ x ∈ M, t ≤ x ∧ x < to := by
  rcases h with ⟨_, h⟩ | ⟨_, L, h, rfl⟩
  · exact h.bd
  · intro x hx
    rw [filQ_occ] at hx
    have h2 := (List.mem_filter.1 hx).1
    unfold takeC at h2
    split at h2
    · exact h.bd x (List.mem_of_mem_take h2)
    · exact h.bd x h2
/-- a slice of int32 -/
structure Sl4 where
  A : Option Addr
  c : Nat
  l : List Int
abbrev Sl4.v (s : Sl4) : Value := .slice s.A s.l.length s.c
def Sl4.In (s : Sl4) (w : World) : Prop := s.l.length ≤ 9223372036854775807 ∧ (∀ x ∈ s.l, -2147483648 ≤ x ∧ x ≤ 2147483647) ∧ (s.l ≠ [] → ∃ b off, s.A = some ⟨b, off, none⟩ ∧ ∀ i (h : i < s.l.length), w.cell? ⟨b, off + i, none⟩ = some (.int .i32 s.l[i]))
theorem Sl4.In.below {s : Sl4} {w w' : World} (h : s.In w) (hb : Below w.heap.size w w') : s.In w' := by
  obtain ⟨h1, h2, h3⟩ := h
  refine ⟨h1, h2, fun hn => ?_⟩
  obtain ⟨b, off, e, hc⟩ := h3 hn
  exact ⟨b, off, e, fun i hi => cell_of_below hb (hc i hi)⟩
end Go.Proofs.YthilkphnjffnhaaGreat
