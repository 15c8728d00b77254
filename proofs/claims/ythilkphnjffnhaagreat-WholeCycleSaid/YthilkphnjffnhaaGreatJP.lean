/- The walk of expand.never. -/
import Derived.Test.YthilkphnjffnhaaGreatJO
import Derived.Test.YthilkphnjffnhaaGreatE6
namespace Go.Proofs.YthilkphnjffnhaaGreat
open Go.RowKit
set_option linter.unusedVariables false
set_option linter.unusedSimpArgs false
def hourL (l : List Int) (h : Nat) : List Int := l.filter fun s => decide (s / 3600 = h)
def neverP (r : Rc) (l : List Int) : Bool :=
  if r.f = 4 then decide ((chosenP r l).length = 0)
  else if r.f ≠ 5 then false
  else !((List.range 24).any fun h => decide (0 < (chosenP r (hourL l h)).length))

set_option maxHeartbeats 4000000 in
theorem never_a (r : Rc) (s : SlI) (w : World) (h4 : r.f ≠ 4) (h5 : r.f ≠ 5) :
    Calls Tryz.prog 63 #[r.val, s.v] w fun e w' => e = .returned (.bool (neverP r s.l)) ∧ Below w.heap.size w w' := by
  have key : neverP r s.l = false := by unfold neverP; rw [if_neg h4, if_pos h5]
  rw [key]
  have g4 : (r.f == 4) = false := by simp [h4]
  have g5 : (r.f != 5) = true := by simp [h5]
  clear key h4 h5
  go_enter Tryz.func63, Tryz.ntmps63
  go_wp2
  go_ret
  exact ⟨rfl, (by repeat (first | (with_reducible exact Below.refl _ _) | (with_reducible assumption) | (with_reducible refine RowKit.Below.ext ?_ ?_ _) | (with_reducible refine Below.alloc ?_ ?_ _) | (with_reducible refine Below.drew ?_) | (with_reducible refine RowKit.Below.drawnN ?_ _) | (with_reducible refine Below.setCell ?_ ?_ _) | (exact (by first | (simp; done) | (simp; omega) | omega))))⟩

set_option maxHeartbeats 4000000 in
theorem never_b (r : Rc) (s : SlI) (w : World) (hr : r.In w) (hs : s.In w) (hv : validB r = true) (hl : s.l.length ≤ 1000000000) (h4 : r.f = 4) :
    Calls Tryz.prog 63 #[r.val, s.v] w fun e w' => e = .returned (.bool (neverP r s.l)) ∧ Below w.heap.size w w' := by
  have key : neverP r s.l = decide ((chosenP r s.l).length = 0) := by unfold neverP; rw [if_pos h4]
  rw [key]
  have g4 : (r.f == 4) = true := by simp [h4]
  have HR := Lib.hid hr
  have HS := Lib.hid hs
  have CC := Lib.hid (fun w (a : r.In w) (b : s.In w) => chosen_any r s w a b hv hl)
  clear key h4 hr hs hv
  generalize chosenP r s.l = L at *
  go_enter Tryz.func63, Tryz.ntmps63
  go_wp2_with fail
  refine (CC.out _ (HR.out.below (by repeat (first | (with_reducible exact Below.refl _ _) | (with_reducible assumption) | (with_reducible refine RowKit.Below.ext ?_ ?_ _) | (with_reducible refine Below.alloc ?_ ?_ _) | (with_reducible refine Below.drew ?_) | (with_reducible refine RowKit.Below.drawnN ?_ _) | (with_reducible refine Below.setCell ?_ ?_ _) | (exact (by first | (simp; done) | (simp; omega) | omega))))) (HS.out.below (by repeat (first | (with_reducible exact Below.refl _ _) | (with_reducible assumption) | (with_reducible refine RowKit.Below.ext ?_ ?_ _) | (with_reducible refine Below.alloc ?_ ?_ _) | (with_reducible refine Below.drew ?_) | (with_reducible refine RowKit.Below.drawnN ?_ _) | (with_reducible refine Below.setCell ?_ ?_ _) | (exact (by first | (simp; done) | (simp; omega) | omega)))))).mono ?_
  rintro e w1 ⟨⟨A, c, l⟩, rfl, h1, h2, hb, _⟩
  obtain ⟨x, rfl⟩ := hb.toExt
  dsimp only at h1
  subst h1
  clear hb h2
  rcases ncase l.length with ⟨p1, p2⟩ | ⟨p1, p2⟩
  · have HP := Lib.hid p1
    clear p1
    go_wp2
    go_ret
    exact ⟨by rw [decide_eq_true HP.out]; rfl, (by repeat (first | (with_reducible exact Below.refl _ _) | (with_reducible assumption) | (with_reducible refine RowKit.Below.ext ?_ ?_ _) | (with_reducible refine Below.alloc ?_ ?_ _) | (with_reducible refine Below.drew ?_) | (with_reducible refine RowKit.Below.drawnN ?_ _) | (with_reducible refine Below.setCell ?_ ?_ _) | (exact (by first | (simp; done) | (simp; omega) | omega))))⟩
  · have HP := Lib.hid p1
    clear p1
    go_wp2
    go_ret
    exact ⟨by rw [decide_eq_false (by have := HP.out; omega)]; rfl, (by repeat (first | (with_reducible exact Below.refl _ _) | (with_reducible assumption) | (with_reducible refine RowKit.Below.ext ?_ ?_ _) | (with_reducible refine Below.alloc ?_ ?_ _) | (with_reducible refine Below.drew ?_) | (with_reducible refine RowKit.Below.drawnN ?_ _) | (with_reducible refine Below.setCell ?_ ?_ _) | (exact (by first | (simp; done) | (simp; omega) | omega))))⟩
end Go.Proofs.YthilkphnjffnhaaGreat
/- The hours of the times, kept in an array of slices. -/
namespace Go.Proofs.YthilkphnjffnhaaGreat
open Go.RowKit Go.Sort
set_option linter.unusedVariables false
set_option linter.unusedSimpArgs false
theorem hourL_snoc (l : List Int) (s : Int) (h : Nat) : hourL (l ++ [s]) h = hourL l h ++ (if s / 3600 = h then [s] else []) := by
  unfold hourL; rw [List.filter_append]
  congr 1
  by_cases e : s / 3600 = h
  · rw [if_pos e]; simp [e]
  · rw [if_neg e]; simp [e]
theorem hourL_mem {l : List Int} {h : Nat} {x : Int} (hx : x ∈ hourL l h) : x / 3600 = h := by
  unfold hourL at hx; simpa using (List.mem_filter.1 hx).2
/-- what a row's first cell holds -/
theorem OwnI.head {B : Nat} {W : World} {v : Value} {x : Int} {l : List Int} (h : OwnI B W v (x :: l)) : ∃ g, v.ownBlock = some g ∧ B ≤ g ∧ W.cell? ⟨g, 0, none⟩ = some (.int .i64 x) ∧ ∃ cur, W.heap[g]? = some (.cells cur 3 (0, 0)) := by
  unfold OwnI at h
  rcases h.2 with ⟨rfl, h0⟩ | ⟨g, cap, cur, rfl, hb, hg, h1, h2, h3, h4⟩
  · simp at h0
  · have hH := holds_of_blockI (ss := x :: l) hg (by simpa using h4)
    have := (hH 0 (by simp)).1
    exact ⟨g, rfl, hb, by simpa using this, cur, hg⟩
theorem OwnI.block {B : Nat} {W : World} {v : Value} {l : List Int} (h : OwnI B W v l) : ∀ g, v.ownBlock = some g → B ≤ g ∧ ∃ cur, W.heap[g]? = some (.cells cur 3 (0, 0)) := by
  unfold OwnI at h
  intro k hk
  rcases h.2 with ⟨rfl, h0⟩ | ⟨g, cap, cur, rfl, hb, hg, h1, h2, h3, h4⟩
  · simp [Value.ownBlock] at hk
  · simp [Value.ownBlock] at hk
    subst hk
    exact ⟨hb, cur, hg⟩

/-- the array of 24 slices, each of them with the times of its hour -/
def Hours (B bH : Nat) (W : World) (L : List Int) : Prop := ∃ cs : Array Value, W.heap[bH]? = some (.cells cs 105 (0, 0)) ∧ cs.size = 24 ∧ bH < B ∧
  ∀ h, h < 24 → ∃ v, cs[h]? = some v ∧ OwnI B W v (hourL L h) ∧ (hourL L h = [] → v = .slice none 0 0)

theorem Hours.cell {B bH : Nat} {W : World} {L : List Int} (H : Hours B bH W L) (h : Nat) (hh : h < 24) : ∃ v, W.cell? ⟨bH, h, none⟩ = some v ∧ OwnI B W v (hourL L h) ∧ (hourL L h = [] → v = .slice none 0 0) := by
  obtain ⟨cs, hb, hs, _, hv⟩ := H
  obtain ⟨v, hv1, hv2⟩ := hv h hh
  exact ⟨v, by simp [World.cell?, hb, hv1], hv2⟩
theorem Hours.frozen {B bH : Nat} {W : World} {L : List Int} (H : Hours B bH W L) (h : Nat) : W.frozen? ⟨bH, h, none⟩ = false := by
  obtain ⟨cs, hb, hs, _, hv⟩ := H
  simp [World.frozen?, hb]

/-- one more time -/
theorem Hours.put {B bH : Nat} {W w1 : World} {L : List Int} {s : Int} {h : Nat} {v v' : Value} {tmp : Obj} (H : Hours B bH W L) (hh : h < 24) (hs : s / 3600 = h) (hc : W.cell? ⟨bH, h, none⟩ = some v)
    (hown : OwnI B w1 v' (hourL L h ++ [s])) (hg : (W.alloc tmp).grownBy w1 v.ownBlock) : Hours B bH (w1.setCell ⟨bH, h, none⟩ v') (L ++ [s]) := by
  obtain ⟨cs, hb, hsz, hB, hv⟩ := H
  obtain ⟨v0, hv1, hv2, hv3⟩ := hv h hh
  have e0 : v0 = v := by
    have : W.cell? ⟨bH, h, none⟩ = some v0 := by simp [World.cell?, hb, hv1]
    rw [hc] at this; exact (Option.some.inj this).symm
  subst e0
  have hlt := (Array.getElem?_eq_some_iff.1 hb).1
  have hne : some bH ≠ v0.ownBlock := fun e => by
    have := (hv2.block bH e.symm).1; omega
  have hb1 : w1.heap[bH]? = some (.cells cs 105 (0, 0)) := (hg.block bH (by simp; omega) hne).trans ((Below.heap_alloc W tmp bH hlt).trans hb)
  have hb2 : (w1.setCell ⟨bH, h, none⟩ v').heap[bH]? = some (.cells (cs.setIfInBounds h v') 105 (0, 0)) := by
    obtain ⟨hlt1, hk⟩ := Array.getElem?_eq_some_iff.1 hb1
    show (w1.heap.modify bH _)[bH]? = _
    rw [Array.getElem?_eq_getElem (by rw [Array.size_modify]; exact hlt1), Array.getElem_modify_self, hk]
    rfl
  have hgs : w1.grownBy (w1.setCell ⟨bH, h, none⟩ v') (some bH) :=
    ⟨rfl, rfl, rfl, (KeepsWalks.setCell w1 _ v').size, fun k _ hk => Below.heap_setCell _ _ _ k (fun e => hk (by rw [e]))⟩
  have keepB : ∀ {u : Value} {l : List Int}, OwnI B w1 u l → OwnI B (w1.setCell ⟨bH, h, none⟩ v') u l := fun {u l} ho => by
    refine World.ownsRow.kept ho hgs (.inr fun e => ?_)
    have := (ho.block bH e).1; omega
  refine ⟨cs.setIfInBounds h v', hb2, by simpa using hsz, hB, fun h' hh' => ?_⟩
  by_cases e : h' = h
  · subst e
    refine ⟨v', by simp [hsz, hh], ?_, ?_⟩
    · rw [hourL_snoc, if_pos hs]; exact keepB hown
    · rw [hourL_snoc, if_pos hs]; intro h; simp at h
  · obtain ⟨u, hu1, hu2, hu3⟩ := hv h' hh'
    have hsn : hourL (L ++ [s]) h' = hourL L h' := by
      rw [hourL_snoc, if_neg (by omega), List.append_nil]
    refine ⟨u, by rw [Array.getElem?_setIfInBounds_ne (Ne.symm e)]; exact hu1, ?_, by rw [hsn]; exact hu3⟩
    rw [hsn]
    refine keepB ?_
    have ha : OwnI B (W.alloc tmp) u (hourL L h') := World.ownsRow.alloc hu2 tmp
    refine World.ownsRow.kept ha hg ?_
    rcases hl : hourL L h' with _ | ⟨x, xs⟩
    · rw [hu3 hl]; exact .inl rfl
    · right
      intro eb
      rw [hl] at hu2
      obtain ⟨g, e1, _, c1, _⟩ := hu2.head
      rcases hl2 : hourL L h with _ | ⟨y, ys⟩
      · rw [hv3 hl2] at eb; rw [e1] at eb; simp [Value.ownBlock] at eb
      · rw [hl2] at hv2
        obtain ⟨g2, e2, _, c2, _⟩ := hv2.head
        rw [e1, e2] at eb
        cases eb
        rw [c1] at c2
        have hxy : x = y := by simpa using c2
        have q1 := hourL_mem (l := L) (h := h') (x := x) (by rw [hl]; simp)
        have q2 := hourL_mem (l := L) (h := h) (x := y) (by rw [hl2]; simp)
        rw [hxy] at q1
        omega
end Go.Proofs.YthilkphnjffnhaaGreat
