/- The numbered occurrences. -/
import Derived.Test.YthilkphnjffnhaaGreatJR
namespace Go.Proofs.YthilkphnjffnhaaGreat
open Go.RowKit
attribute [local go_sem] Oper.semAt_some
set_option linter.unusedVariables false
set_option linter.unusedSimpArgs false
/-- the counter, after k rounds -/
def cntW : Nat → Int
  | 0 => 0
  | k + 1 => wrap64 (cntW k + 1)
theorem cntW_small : ∀ k : Nat, k ≤ 1000000 → cntW k = k := by
  intro k
  induction k with
  | zero => intro _; rfl
  | succ k ih =>
    intro h
    unfold cntW
    rw [ih (by omega), wrap64_id _ (by omega) (by omega)]
    omega
def pairsW (L : List Int) : List (Int × Int) := L.zipIdx.map fun p => (cntW p.2, p.1)
theorem pairsW_snoc (pre : List Int) (x : Int) : pairsW (pre ++ [x]) = pairsW pre ++ [(cntW pre.length, x)] := by
  unfold pairsW; rw [List.zipIdx_append, List.map_append]; simp
theorem pairsW_prefix {a b : List Int} (h : a <+: b) : pairsW a <+: pairsW b := by
  obtain ⟨c, rfl⟩ := h
  unfold pairsW
  rw [List.zipIdx_append, List.map_append]
  exact List.prefix_append _ _
def takeC (r : Rc) (L : List Int) : List Int := if 0 < r.ct then L.take r.ct.toNat else L
def occL (r : Rc) (L : List Int) : List (Int × Int) := pairsW (takeC r L)
theorem takeC_all {r : Rc} {L : List Int} (h : 0 < r.ct → (L.length : Int) ≤ r.ct) : takeC r L = L := by
  unfold takeC
  split
  · rename_i h0
    exact List.take_of_length_le (by have := h h0; omega)
  · rfl
theorem takeC_prefix {r : Rc} {L pre : List Int} {x : Int} (hp : (pre ++ [x]) <+: L) (h : 0 < r.ct → (pre.length : Int) < r.ct) : (pre ++ [x]) <+: takeC r L := by
  unfold takeC
  split
  · rename_i h0
    have := h h0
    have h1 := List.prefix_take_iff.2 ⟨hp, show (pre ++ [x]).length ≤ r.ct.toNat by simp; omega⟩
    exact h1
  · exact hp
theorem takeC_full {r : Rc} {L pre : List Int} {x : Int} (hp : (pre ++ [x]) <+: L) (h0 : 0 < r.ct) (h : (pre.length : Int) = r.ct) : takeC r L = pre := by
  unfold takeC
  rw [if_pos h0]
  obtain ⟨c, rfl⟩ := hp
  rw [List.append_assoc, List.take_append_of_le_length (by omega), List.take_of_length_le (by omega)]
theorem Step.drop {C C0 Cx C2 : FP} {W w V : World} (hW : Below W.heap.size W w) (h : Step C0 Cx w V) (h0 : ∀ k, C0 k → C k ∨ W.heap.size ≤ k) (hx : ∀ k, C2 k → Cx k) : Step C C2 W V :=
  ⟨⟨h.lim.os.trans hW.os, h.lim.tape.trans hW.tape, h.lim.output.trans hW.output, Nat.le_trans hW.size h.lim.size,
    fun k hk hc => (h.lim.block k (Nat.lt_of_lt_of_le hk hW.size) (fun c => by rcases h0 k c with a | a; exact hc a; omega)).trans (hW.block k hk)⟩,
   fun k hk => h.fin k (hx k hk),
   fun k hk hl => by
     rcases h0 k (h.old k (hx k hk) (Nat.lt_of_lt_of_le hl hW.size)) with a | a
     · exact a
     · omega⟩
theorem Step.wide {C C' : FP} {A B : World} {b : Nat} (h : Step C C' A B) (hb : b < A.heap.size) : Step (fun k => C k ∨ k = b) (fun k => C' k ∨ k = b) A B :=
  ⟨h.lim.mono (fun k _ c => .inl c), fun k hk => by rcases hk with a | rfl; exact h.fin k a; exact Nat.lt_of_lt_of_le hb h.lim.size,
   fun k hk hl => by rcases hk with a | a; exact .inl (h.old k a hl); exact .inr a⟩
theorem RoundIn.inRound {n m : Nat} {P : Program} {l l' : Nat} {f : FuncId} {tmps : Array Value} {assign body : Code} {w : World} {R : Ending → World → Prop} (h : RoundIn FW n P l f tmps assign body w R) : RoundIn (FW.inRound l') m P l f tmps assign body w R :=
  ⟨h.1, fun c cs _ => h.2 c cs (room_wide _)⟩
end Go.Proofs.YthilkphnjffnhaaGreat
/- The iterators all and occurrences are made. -/
namespace Go.Proofs.YthilkphnjffnhaaGreat
open Go.RowKit
attribute [local go_sem] Oper.semAt_some
set_option linter.unusedVariables false
set_option linter.unusedSimpArgs false
/-- the iterator of the occurrences, with what it has captured -/
def RetA (r : Rc) (t fr to : Int) (w : World) : Ending → World → Prop := fun e w' => ∃ b1 b2 b3 b4, e = .returned (.func (.func 61) #[] #[.pointer (some ⟨b1, 0, none⟩), .pointer (some ⟨b2, 0, none⟩), .pointer (some ⟨b3, 0, none⟩), .pointer (some ⟨b4, 0, none⟩)]) ∧
  (∀ o, w'.cell? ⟨b1, o, none⟩ = r.cells[o]?) ∧ w'.cell? ⟨b2, 0, none⟩ = some (.int .i64 t) ∧ w'.cell? ⟨b3, 0, none⟩ = some (.int .i64 fr) ∧ w'.cell? ⟨b4, 0, none⟩ = some (.int .i64 to) ∧
  w.heap.size ≤ b1 ∧ w.heap.size ≤ b2 ∧ w.heap.size ≤ b3 ∧ w.heap.size ≤ b4 ∧ Below w.heap.size w w'
set_option maxHeartbeats 4000000 in
theorem all_make (r : Rc) (t fr to : Int) (w : World) : Calls Tryz.prog 39 #[r.val, .int .i64 t, .int .i64 fr, .int .i64 to] w (RetA r t fr to w) := by
  go_enter Tryz.func39, Tryz.ntmps39
  go_wp2
  go_ret
  exact ⟨_, _, _, _, rfl, fun o => kept_cells 25 (by repeat (first | (with_reducible exact Below.refl _ _) | (with_reducible assumption) | (with_reducible refine RowKit.Below.ext ?_ ?_ _) | (with_reducible refine Below.alloc ?_ ?_ _) | (with_reducible refine Below.drew ?_) | (with_reducible refine RowKit.Below.drawnN ?_ _) | (with_reducible refine Below.setCell ?_ ?_ _) | (exact (by first | (simp; done) | (simp; omega) | omega)))) rfl o, by go_simp, by go_simp, by go_simp, (by first | (simp; done) | (simp; omega) | omega), (by first | (simp; done) | (simp; omega) | omega), (by first | (simp; done) | (simp; omega) | omega), (by first | (simp; done) | (simp; omega) | omega), (by repeat (first | (with_reducible exact Below.refl _ _) | (with_reducible assumption) | (with_reducible refine RowKit.Below.ext ?_ ?_ _) | (with_reducible refine Below.alloc ?_ ?_ _) | (with_reducible refine Below.drew ?_) | (with_reducible refine RowKit.Below.drawnN ?_ _) | (with_reducible refine Below.setCell ?_ ?_ _) | (exact (by first | (simp; done) | (simp; omega) | omega))))⟩
def RetO (r : Rc) (t to : Int) (w : World) : Ending → World → Prop := fun e w' => ∃ b1 b2 b4, e = .returned (.func (.func 38) #[] #[.pointer (some ⟨b1, 0, none⟩), .pointer (some ⟨b2, 0, none⟩), .pointer (some ⟨b4, 0, none⟩)]) ∧
  (∀ o, w'.cell? ⟨b1, o, none⟩ = r.cells[o]?) ∧ w'.cell? ⟨b2, 0, none⟩ = some (.int .i64 t) ∧ w'.cell? ⟨b4, 0, none⟩ = some (.int .i64 to) ∧
  w.heap.size ≤ b1 ∧ w.heap.size ≤ b2 ∧ w.heap.size ≤ b4 ∧ Below w.heap.size w w'
set_option maxHeartbeats 4000000 in
theorem occ_make (r : Rc) (t to : Int) (w : World) : Calls Tryz.prog 16 #[r.val, .int .i64 t, .int .i64 to] w (RetO r t to w) := by
  go_enter Tryz.func16, Tryz.ntmps16
  go_wp2
  go_ret
  exact ⟨_, _, _, rfl, fun o => kept_cells 25 (by repeat (first | (with_reducible exact Below.refl _ _) | (with_reducible assumption) | (with_reducible refine RowKit.Below.ext ?_ ?_ _) | (with_reducible refine Below.alloc ?_ ?_ _) | (with_reducible refine Below.drew ?_) | (with_reducible refine RowKit.Below.drawnN ?_ _) | (with_reducible refine Below.setCell ?_ ?_ _) | (exact (by first | (simp; done) | (simp; omega) | omega)))) rfl o, by go_simp, by go_simp, (by first | (simp; done) | (simp; omega) | omega), (by first | (simp; done) | (simp; omega) | omega), (by first | (simp; done) | (simp; omega) | omega), (by repeat (first | (with_reducible exact Below.refl _ _) | (with_reducible assumption) | (with_reducible refine RowKit.Below.ext ?_ ?_ _) | (with_reducible refine Below.alloc ?_ ?_ _) | (with_reducible refine Below.drew ?_) | (with_reducible refine RowKit.Below.drawnN ?_ _) | (with_reducible refine Below.setCell ?_ ?_ _) | (exact (by first | (simp; done) | (simp; omega) | omega))))⟩
end Go.Proofs.YthilkphnjffnhaaGreat
