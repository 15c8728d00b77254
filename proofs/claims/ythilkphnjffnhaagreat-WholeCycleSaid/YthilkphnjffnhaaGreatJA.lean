/- The ground of the walks: worlds that grow ('World.ext'), a region that draws its order and whose callees make memory, walked once. -/
import Derived.Test.YthilkphnjffnhaaGreatProg
import Derived.WalkKit
import Derived.WalkSpells
import Derived.WalkLawsBesides
import Derived.Deep.QuietTactic
import Derived.BigQuiet
import Derived.StillTail
import Derived.KernelRfl
import Derived.Lib.Hide
namespace Go
open Go.RowKit
set_option linter.unusedVariables false
set_option linter.unusedSimpArgs false

/-- What a call may add to a world: blocks behind those that lay, and draws. -/
structure Ext where
  o : Array Obj
  n : Nat
instance : Inhabited Ext := ⟨⟨#[], 0⟩⟩
def Ext.k (x : Ext) : Nat := x.o.size
def World.ext (w : World) (x : Ext) : World := { w with heap := w.heap ++ x.o, drawn := x.n }
def Ext.add (x y : Ext) : Ext := ⟨x.o ++ y.o, y.n⟩

section
variable (w : World) (x y : Ext)
@[go_sem, simp] theorem lt_add_k (a b : Nat) (x : Ext) (h : a < b) : a < b + x.k := by omega
@[go_sem, simp] theorem le_add_k (a b : Nat) (x : Ext) (h : a ≤ b) : a ≤ b + x.k := by omega
@[go_sem, simp] theorem World.size_ext : (w.ext x).heap.size = w.heap.size + x.k := by simp [World.ext, Ext.k]
theorem World.ext_ext : (w.ext x).ext y = w.ext (x.add y) := by simp [World.ext, Ext.add, Array.append_assoc]
theorem World.heap_ext {b : Nat} (h : b < w.heap.size) : (w.ext x).heap[b]? = w.heap[b]? := by
  show (w.heap ++ x.o)[b]? = _
  rw [Array.getElem?_append_left h]
theorem World.cell?_ext (a : Addr) (h : a.block < w.heap.size) : (w.ext x).cell? a = w.cell? a := by
  unfold World.cell?; rw [World.heap_ext w x h]
theorem World.frozen?_ext (a : Addr) (h : a.block < w.heap.size) : (w.ext x).frozen? a = w.frozen? a := by
  unfold World.frozen?; rw [World.heap_ext w x h]
/-- what lies at a place behind a growth (for a place that lay before it says nothing new) -/
def World.rest (w w' : World) (a : Addr) : Option Value := w'.cell? a
theorem World.cell?_or {w w' : World} (a : Addr) (h : a.block < w.heap.size → w'.cell? a = w.cell? a) : w'.cell? a = (w.cell? a).or (w.rest w' a) := by
  cases hc : w.cell? a with
  | none => rfl
  | some v => rw [h (World.block_lt_of_cell? w a hc), hc]; rfl
@[go_sem] theorem World.cell?_ext_or (a : Addr) : (w.ext x).cell? a = (w.cell? a).or (w.rest (w.ext x) a) := World.cell?_or a (World.cell?_ext w x a)
@[go_sem low] theorem World.cell?_alloc_or (o : Obj) (a : Addr) : (w.alloc o).cell? a = (w.cell? a).or (w.rest (w.alloc o) a) := World.cell?_or a (World.cell?_alloc_lt w o a)
@[go_sem] theorem World.frozen?_ext_of (a : Addr) (h : (w.cell? a).isSome = true) : (w.ext x).frozen? a = w.frozen? a := by
  obtain ⟨v, hv⟩ := Option.isSome_iff_exists.1 h
  exact World.frozen?_ext w x a (World.block_lt_of_cell? w a hv)
@[go_sem low] theorem World.frozen?_alloc_of (o : Obj) (a : Addr) (h : (w.cell? a).isSome = true) : (w.alloc o).frozen? a = w.frozen? a := by
  obtain ⟨v, hv⟩ := Option.isSome_iff_exists.1 h
  exact World.frozen?_alloc_old w o a (Nat.ne_of_lt (World.block_lt_of_cell? w a hv))
@[go_sem] theorem World.drew_ext : (w.drew).ext x = w.ext x := rfl
theorem RowKit.Below.ofExt : Below w.heap.size w (w.ext x) := ⟨rfl, rfl, rfl, by simp, fun k hk => World.heap_ext w x hk⟩
end
theorem RowKit.Below.ext {B : Nat} {a w : World} (h : Below B a w) (hB : B ≤ w.heap.size) (x : Ext) : Below B a (w.ext x) := h.trans ((RowKit.Below.ofExt w x).mono hB)
theorem RowKit.Below.drawnN {B : Nat} {a w : World} (h : Below B a w) (n : Nat) : Below B a (w.drewN n) := ⟨h.os, h.tape, h.output, h.size, h.block⟩
theorem RowKit.Below.toExt {w w' : World} (h : Below w.heap.size w w') : ∃ x, w' = w.ext x := by
  refine ⟨⟨w'.heap.extract w.heap.size w'.heap.size, w'.drawn⟩, ?_⟩
  have hh : w'.heap = w.heap ++ w'.heap.extract w.heap.size w'.heap.size := by
    apply Array.ext_getElem?
    intro i
    by_cases hi : i < w.heap.size
    · rw [Array.getElem?_append_left hi, h.block i hi]
    · rw [Array.getElem?_append_right (by omega)]
      have hs := h.size
      by_cases hj : i < w'.heap.size
      · rw [Array.getElem?_eq_getElem hj, Array.getElem?_eq_getElem (by simp; omega), Array.getElem_extract]
        congr 2; omega
      · rw [Array.getElem?_eq_none (by omega), Array.getElem?_eq_none (by simp; omega)]
  obtain ⟨h1, h2, h3, h4, h5⟩ := h
  cases w; cases w'
  simp only [World.ext] at *
  subst h1 h2 h3
  congr 1

section
variable {P : Program} {ops : Array Oper} {md : Region.Mode} {C : World → Prop}

/-- 'wpAnyL' (Derived/StillTail.lean) over a class of worlds. -/
def wpAnyLC (P : Program) (md : Region.Mode) (ops : Array Oper) (C : World → Prop) (n : Nat) (L : Array Bool → Act → Prop) : Nat → Array Bool → Act → Prop
  | 0, listed, a => L listed a
  | f + 1, listed, a =>
    Region.ready md ops listed ≠ [] ∧ ∀ i ∈ Region.ready md ops listed, i < n ∧ qOp P ops C i (wpAnyLC P md ops C n L f (listed.setIfInBounds i true)) a

theorem wpAny_of_headC {n g : Nat} {L : Array Bool → Act → Prop} {Q' : Exit → Act → World → Prop} (hL : ∀ listed a w, C w → L listed a → wpAny P md ops Q' g listed a w) :
    ∀ (f : Nat) (listed : Array Bool) (a : Act) (w : World), C w → wpAnyLC P md ops C n L f listed a → wpAny P md ops Q' (f + g) listed a w
  | 0, listed, a, w, hw, h => by rw [Nat.zero_add]; exact hL _ _ _ hw h
  | f + 1, listed, a, w, hw, h => by
    rw [show f + 1 + g = (f + g) + 1 by omega]
    exact ⟨fun h0 => absurd h0 h.1, fun i hi => wpOp_of_qOp hw (fun a' w' hw' h' => wpAny_of_headC hL f _ a' w' hw' h') (h.2 i hi).2⟩

theorem wpAnyLC_first {n i : Nat} {oi : Oper} {v : Value} {L : Array Bool → Act → Prop} (hi : ops[i]? = some oi) (hsel : ∀ (j : Nat) (o : Oper) cs b, ops[j]? = some o → o.op ≠ .select cs b)
    (hs : Region.sinkB md ops n = true) (hc : Region.chainB md ops n = true) (hn : n < ops.size) (hin : i < n)
    (hdone : ∀ listed a, L listed a → ∀ j ∈ Region.ready md ops listed, n ≤ j) :
    ∀ (f : Nat) (listed : Array Bool) (a : Act), HeadInv md ops n listed →
      (∀ j oj, ops[j]? = some oj → j ≠ i → listed.getD j true = false → (∀ e ∈ oj.after, Region.binds md e = true → e.on ≠ i) → oi.apart ops oj = true) →
      i ∈ Region.ready md ops listed → YieldsIn P ops C oi v a →
      wpAnyLC P md ops C n L f (listed.setIfInBounds i true) (a.put oi.dst v) → wpAnyLC P md ops C n L (f + 1) listed a := by
  intro f
  induction f with
  | zero =>
    intro listed a inv _ hr hy H
    have hun := (mem_ready.1 hr).1
    refine ⟨fun h => (by rw [h] at hr; cases hr), fun j hj => ?_⟩
    have hjn : j < n := by
      rcases Nat.lt_or_ge j n with h | h
      · exact h
      · exact absurd hj (tail_waits hs hc hn inv _ i rfl hin hun j h)
    refine ⟨hjn, ?_⟩
    by_cases hji : j = i
    · subst hji; exact hy.qOp hi H
    · have := hdone _ _ H j (ready_mono hj hji)
      omega
  | succ f ih =>
    intro listed a inv hfree hr hy H
    have hun := (mem_ready.1 hr).1
    refine ⟨fun h => (by rw [h] at hr; cases hr), fun j hj => ?_⟩
    have hjn : j < n := by
      rcases Nat.lt_or_ge j n with h | h
      · exact h
      · exact absurd hj (tail_waits hs hc hn inv _ i rfl hin hun j h)
    refine ⟨hjn, ?_⟩
    by_cases hji : j = i
    · subst hji; exact hy.qOp hi H
    · have h1 := (H.2 j (ready_mono hj hji)).2
      obtain ⟨hjun, oj, hoj, hall⟩ := mem_ready.1 hj
      have hnot : ∀ e ∈ oj.after, Region.binds md e = true → e.on ≠ i := fun e he hb heq => by
        have h1 := hall e he hb
        rw [heq, getD_both hun] at h1
        cases h1
      have h2 := qOp_put hoj (hfree j oj hoj hji hjun hnot) (fun cs b => hsel i oi cs b hi) (fun cs b => hsel j oj cs b hoj) hy h1
      have hfree' : ∀ k ok, ops[k]? = some ok → k ≠ i → (listed.setIfInBounds j true).getD k true = false →
          (∀ e ∈ ok.after, Region.binds md e = true → e.on ≠ i) → oi.apart ops ok = true := fun k ok hk hki hun hno => by
        refine hfree k ok hk hki ?_ hno
        by_cases hjk : j = k
        · subst hjk; exact hjun
        · rw [getD_set_ne true hjk] at hun; exact hun
      refine qOp_mono (fun a' h3 => ih (listed.setIfInBounds j true) a' (inv.set hj hjn) hfree' (ready_mono hr (Ne.symm hji)) h3.1 ?_) h2
      rw [Array.setIfInBounds_comm _ _ hji]
      exact h3.2

theorem wpAnyLC_lex {n g : Nat} {Lq : Act → Prop} (hsel : Region.noSelect ops = true) (hs : Region.sinkB md ops n = true) (hc : Region.chainB md ops n = true) (hn : n < ops.size) :
    ∀ (l : List Oper) (k : Nat) (listed : Array Bool) (a : Act), (∀ j, j < l.length → l[j]? = ops[k + j]?) → k + l.length = n → HeadInv md ops n listed →
    Region.lexHead md ops g l.length k listed = true → wpQuiet P ops C Lq l a →
    wpAnyLC P md ops C n (fun listed' a' => Region.seqB md ops g n listed' = true ∧ Lq a') l.length listed a
  | [], k, listed, a, _, hk, _, hB, h => by
    have : k = n := by simpa using hk
    subst this
    exact ⟨by simpa [Region.lexHead] using hB, h⟩
  | o :: l, k, listed, a, hl, hk, inv, hB, h => by
    have h0 : ops[k]? = some o := by simpa using (hl 0 (by simp)).symm
    simp only [List.length_cons, Region.lexHead, Bool.and_eq_true] at hB
    obtain ⟨⟨hr, hf⟩, hB'⟩ := hB
    have hkn : k < n := by simp only [List.length_cons] at hk; omega
    have hr' : k ∈ Region.ready md ops listed := by simpa using hr
    have hst : qOp P ops C k (wpQuiet P ops C Lq l) a := by unfold qOp; simp only [h0]; exact h
    obtain ⟨v, hy, hK⟩ := yieldsIn_of_qOp h0 hst
    exact wpAnyLC_first h0 (Region.noSelect_spec hsel) hs hc hn hkn (fun listed' a' hL => seqB_ready hL.1) l.length listed a inv (Region.free_spec h0 hf) hr' hy
      (wpAnyLC_lex hsel hs hc hn l (k + 1) _ _ (fun j hj => by have := hl (j + 1) (by simp; omega); simpa [Nat.add_assoc, Nat.add_comm 1 j] using this) (by simp only [List.length_cons] at hk; omega) (inv.set hr' hkn) hB' hK)

/-- A region that draws its order: all but its last operations read or call what only makes memory, in whatever order; the last ones come one behind the other. -/
theorem wp_region_calm_tail {id : Nat} {Q : Exit → Act → World → Prop} {a : Act} {w : World} {l : List Oper} (n : Nat) (hm : P.follows .mixedOrders = true) (hB : Region.lexTailB .any l.toArray n = true)
    (h : wpQuiet P l.toArray (fun w' => ∃ x, w' = w.ext x) (fun a' => ∀ w', (∃ x, w' = w.ext x) → wpList P l.toArray Q (l.drop n) a' w') (l.take n) a) : (Code.region id l.toArray true).wp P Q a w := by
  simp only [Region.lexTailB, Bool.and_eq_true, decide_eq_true_eq] at hB
  obtain ⟨⟨⟨⟨hsel, hn⟩, hs⟩, hc⟩, hlex⟩ := hB
  have hn' : n < l.length := by simpa using hn
  have htl : (l.take n).length = n := by simp; omega
  have hdl : (l.drop n).length = l.toArray.size - n := by simp
  have inv0 : HeadInv .any l.toArray n (Array.replicate l.toArray.size false) :=
    ⟨by simp, fun j oj _ hl => (by rw [getD_replicate_false] at hl; cases hl), fun t _ ht => getD_in (by simpa using ht) (getD_replicate_false _ _)⟩
  have H := wpAnyLC_lex (md := .any) (g := l.toArray.size - n) hsel hs hc hn (l.take n) 0 _ a (fun j hj => by
    have hj' : j < n := by rw [htl] at hj; exact hj
    simp [hj']) (by simpa using htl) inv0 (by rw [htl]; exact hlex) h
  refine wp_region_any hm ?_
  have hC0 : ∃ x, ({ w with drawn := w.drawn + 1 } : World) = w.ext x := ⟨⟨#[], w.drawn + 1⟩, by simp [World.ext]⟩
  have := wpAny_of_headC (Q' := Q) (g := l.toArray.size - n) (fun listed a' w' hw' hL => by
    have := wpAny_of_seq (md := .any) (Q' := Q) (l.drop n) n listed a' w' (fun j => by simp [List.getElem?_drop]) (by rw [hdl]; exact hL.1) (hL.2 w' hw')
    rwa [hdl] at this) _ _ _ _ hC0 H
  rw [htl, show n + (l.toArray.size - n) = l.toArray.size by omega] at this
  exact this

/-- A region that draws its order: its operations read or call what only makes memory. -/
theorem wp_region_calm {id : Nat} {Q : Exit → Act → World → Prop} {a : Act} {w : World} {l : List Oper} (hm : P.follows .mixedOrders = true) (hB : Region.lexB .any l.toArray = true)
    (h : wpQuiet P l.toArray (fun w' => ∃ x, w' = w.ext x) (fun a' => ∀ w', (∃ x, w' = w.ext x) → Q .normal a' w') l a) : (Code.region id l.toArray true).wp P Q a w :=
  wp_region_quiet (C := fun w' => ∃ x, w' = w.ext x) hm hB ⟨⟨#[], w.drawn + 1⟩, by simp [World.ext]⟩ (by simpa using h)
end

theorem ret_int {k : IntKind} {a b : Int} (h : a = b) : Ending.returned (.int k a) = .returned (.int k b) := by rw [h]
theorem Calls.calm_of {P : Program} {f : FuncId} {args : Array Value} {w : World} {x : Ext} {v : Value}
    (h : Calls P f args (w.ext x) fun e w' => e = .returned v ∧ Below (w.ext x).heap.size (w.ext x) w') : Calls P f args (w.ext x) fun e w'' => e = .returned v ∧ ∃ y, w'' = w.ext y :=
  h.mono fun _ _ ⟨he, hb⟩ => ⟨he, by obtain ⟨y, rfl⟩ := hb.toExt; exact ⟨x.add y, World.ext_ext _ _ _⟩⟩
theorem Calls.calm_of_drew {P : Program} {f : FuncId} {args : Array Value} {w : World} {x : Ext} {v : Value}
    (h : Calls P f args (w.ext x) fun e w' => e = .returned v ∧ ∃ n, w' = (w.ext x).drewN n) : Calls P f args (w.ext x) fun e w'' => e = .returned v ∧ ∃ y, w'' = w.ext y :=
  h.mono fun _ _ ⟨he, n, hb⟩ => ⟨he, ⟨x.o, x.n + n⟩, by rw [hb]; simp [World.drewN, World.ext]⟩
theorem Calls.calm_of_same {P : Program} {f : FuncId} {args : Array Value} {w : World} {x : Ext} {v : Value}
    (h : Calls P f args (w.ext x) fun e w' => e = .returned v ∧ w.ext x = w') : Calls P f args (w.ext x) fun e w'' => e = .returned v ∧ ∃ y, w'' = w.ext y :=
  h.mono fun _ _ ⟨he, hb⟩ => ⟨he, x, hb.symm⟩
end Go
/- The plain calendar: numbers of days, dates, weeks; all of it repeats after 146097 days. -/
namespace Go.Proofs.YthilkphnjffnhaaGreat
set_option linter.unusedVariables false
set_option linter.unusedSimpArgs false

/-- the day of January 1, of any year -/
def ny (y : Int) : Int := -719162 + 365 * (y - 1) + (y - 1) / 4 - (y - 1) / 100 + (y - 1) / 400
/-- the day of a date in a year from March on -/
def cnt0 (y m d : Int) : Int := 365 * y + y / 4 - y / 100 + y / 400 + (153 * (m - 3) + 2) / 5 + d - 307 + -719162
def cnt (y m d : Int) : Int := if m ≤ 2 then cnt0 (y - 1) (m + 12) d else cnt0 y m d
def lpB (y : Int) : Bool := decide (y % 4 = 0) && (!decide (y % 100 = 0) || decide (y % 400 = 0))
def tab (m : Int) : Int := if m = 2 then 28 else if m = 4 ∨ m = 6 ∨ m = 9 ∨ m = 11 then 30 else 31
def mlen (y m : Int) : Int := if m = 2 ∧ lpB y = true then 29 else tab m
def yrB (y : Int) : Bool := decide (1 ≤ y ∧ y ≤ 9999)
/-- civil.Length -/
def lenP (y m : Int) : Int := if yrB y = true ∧ 1 ≤ m ∧ m ≤ 12 then mlen y m else 0
/-- civil.Valid -/
def vdB (y m d : Int) : Bool := decide (1 ≤ d ∧ d ≤ lenP y m)

theorem cnt_jan (y : Int) : cnt y 1 1 = ny y := by unfold cnt cnt0 ny; simp; omega
theorem ny_400 (y : Int) : ny (y + 400) = ny y + 146097 := by unfold ny; omega
theorem cnt_400 (y m d : Int) : cnt (y + 400) m d = cnt y m d + 146097 := by
  unfold cnt cnt0; split <;> omega
theorem lpB_400 (y : Int) : lpB (y + 400) = lpB y := by
  unfold lpB
  have h1 : (y + 400) % 4 = y % 4 := by omega
  have h2 : (y + 400) % 100 = y % 100 := by omega
  have h3 : (y + 400) % 400 = y % 400 := by omega
  rw [h1, h2, h3]
theorem mlen_400 (y m : Int) : mlen (y + 400) m = mlen y m := by unfold mlen; rw [lpB_400]
theorem mlen_bd (y m : Int) : 28 ≤ mlen y m ∧ mlen y m ≤ 31 := by unfold mlen tab; (repeat' split) <;> omega
theorem cnt_d (y m d : Int) : cnt y m d = cnt y m 1 + (d - 1) := by unfold cnt cnt0; split <;> omega
theorem lp_iff (y : Int) : lpB y = true ↔ (y % 4 = 0 ∧ (y % 100 ≠ 0 ∨ y % 400 = 0)) := by
  unfold lpB; simp
theorem cnt_next (y m : Int) (h1 : 1 ≤ m) (h2 : m ≤ 11) : cnt y (m + 1) 1 = cnt y m 1 + mlen y m := by
  have hm : m = 1 ∨ m = 2 ∨ m = 3 ∨ m = 4 ∨ m = 5 ∨ m = 6 ∨ m = 7 ∨ m = 8 ∨ m = 9 ∨ m = 10 ∨ m = 11 := by omega
  have hl := lp_iff y
  cases hb : lpB y with
  | true =>
    have := hl.1 hb
    rcases hm with rfl | rfl | rfl | rfl | rfl | rfl | rfl | rfl | rfl | rfl | rfl <;> simp [cnt, cnt0, mlen, tab, hb] <;> omega
  | false =>
    have hn : ¬ (y % 4 = 0 ∧ (y % 100 ≠ 0 ∨ y % 400 = 0)) := fun h => by rw [hl.2 h] at hb; cases hb
    rcases hm with rfl | rfl | rfl | rfl | rfl | rfl | rfl | rfl | rfl | rfl | rfl <;> simp [cnt, cnt0, mlen, tab, hb] <;> omega
theorem cnt_dec (y : Int) : ny (y + 1) = cnt y 12 1 + 31 := by unfold cnt cnt0 ny; simp; omega
theorem mlen_12 (y : Int) : mlen y 12 = 31 := by simp [mlen, tab]
/-- the days of a month lie in its year -/
theorem cnt_in (y m : Int) (h1 : 1 ≤ m) (h2 : m ≤ 12) : ny y ≤ cnt y m 1 ∧ cnt y m 1 + mlen y m ≤ ny (y + 1) := by
  have hm : m = 1 ∨ m = 2 ∨ m = 3 ∨ m = 4 ∨ m = 5 ∨ m = 6 ∨ m = 7 ∨ m = 8 ∨ m = 9 ∨ m = 10 ∨ m = 11 ∨ m = 12 := by omega
  have hb := mlen_bd y
  have n1 := cnt_next y 1 (by omega) (by omega)
  have n2 := cnt_next y 2 (by omega) (by omega)
  have n3 := cnt_next y 3 (by omega) (by omega)
  have n4 := cnt_next y 4 (by omega) (by omega)
  have n5 := cnt_next y 5 (by omega) (by omega)
  have n6 := cnt_next y 6 (by omega) (by omega)
  have n7 := cnt_next y 7 (by omega) (by omega)
  have n8 := cnt_next y 8 (by omega) (by omega)
  have n9 := cnt_next y 9 (by omega) (by omega)
  have n10 := cnt_next y 10 (by omega) (by omega)
  have n11 := cnt_next y 11 (by omega) (by omega)
  have n12 := cnt_dec y
  have j := cnt_jan y
  have l12 := mlen_12 y
  have b1 := hb 1; have b2 := hb 2; have b3 := hb 3; have b4 := hb 4; have b5 := hb 5; have b6 := hb 6; have b7 := hb 7; have b8 := hb 8; have b9 := hb 9; have b10 := hb 10; have b11 := hb 11
  rcases hm with rfl | rfl | rfl | rfl | rfl | rfl | rfl | rfl | rfl | rfl | rfl | rfl <;> (try simp only [Int.reduceAdd] at *) <;> omega
theorem ny_lt (y : Int) : ny y + 365 ≤ ny (y + 1) ∧ ny (y + 1) ≤ ny y + 366 := by unfold ny; omega
theorem ny_mono (a b : Int) (h : a ≤ b) : ny a + 365 * (b - a) ≤ ny b := by unfold ny; omega
theorem ny_1 : ny 1 = -719162 := by decide
theorem ny_10000 : ny 10000 = 2932897 := by decide

/-- a day has a date -/
def IsDate (day y m d : Int) : Prop := 1 ≤ y ∧ y ≤ 9999 ∧ 1 ≤ m ∧ m ≤ 12 ∧ 1 ≤ d ∧ d ≤ mlen y m ∧ cnt y m 1 + (d - 1) = day
theorem IsDate.inY {day y m d : Int} (h : IsDate day y m d) : ny y ≤ day ∧ day < ny (y + 1) := by
  obtain ⟨_, _, h3, h4, h5, h6, h7⟩ := h
  have := cnt_in y m h3 h4
  omega
theorem month_lt (y a b : Int) (h1 : 1 ≤ a) (h2 : a < b) (h3 : b ≤ 12) : cnt y a 1 + mlen y a ≤ cnt y b 1 := by
  obtain ⟨k, hk⟩ : ∃ k : Nat, b = a + 1 + k := ⟨(b - a - 1).toNat, by omega⟩
  subst hk
  induction k with
  | zero => have := cnt_next y a h1 (by omega); simp; omega
  | succ k ih =>
    have h := ih (by omega) (by omega)
    have n := cnt_next y (a + 1 + k) (by omega) (by omega)
    have b := mlen_bd y (a + 1 + k)
    have e : a + 1 + ((k + 1 : Nat) : Int) = a + 1 + (k : Int) + 1 := by omega
    rw [e]; omega
theorem IsDate.uniq {day y m d y' m' d' : Int} (h : IsDate day y m d) (h' : IsDate day y' m' d') : y = y' ∧ m = m' ∧ d = d' := by
  have a := h.inY; have b := h'.inY
  have hy : y = y' := by
    rcases Int.lt_trichotomy y y' with hl | hl | hl
    · have := ny_mono (y + 1) y' (by omega); omega
    · exact hl
    · have := ny_mono (y' + 1) y (by omega); omega
  subst hy
  obtain ⟨_, _, h3, h4, h5, h6, h7⟩ := h
  obtain ⟨_, _, g3, g4, g5, g6, g7⟩ := h'
  have hm : m = m' := by
    rcases Int.lt_trichotomy m m' with hl | hl | hl
    · have := month_lt y m m' h3 hl g4; omega
    · exact hl
    · have := month_lt y m' m g3 hl h4; omega
  subst hm
  omega
theorem IsDate.shift {day y m d : Int} (h : IsDate day y m d) (hy : y ≤ 9599) : IsDate (day + 146097) (y + 400) m d := by
  obtain ⟨h1, h2, h3, h4, h5, h6, h7⟩ := h
  exact ⟨by omega, by omega, h3, h4, h5, by rw [mlen_400]; exact h6, by rw [cnt_400]; omega⟩

open Classical in
noncomputable def dt (day : Int) : Int × Int × Int := if h : ∃ p : Int × Int × Int, IsDate day p.1 p.2.1 p.2.2 then Classical.choose h else (1, 1, 1)
noncomputable def yr (day : Int) : Int := (dt day).1
noncomputable def mo (day : Int) : Int := (dt day).2.1
noncomputable def dm (day : Int) : Int := (dt day).2.2
theorem dt_eq {day y m d : Int} (h : IsDate day y m d) : dt day = (y, m, d) := by
  have hex : ∃ p : Int × Int × Int, IsDate day p.1 p.2.1 p.2.2 := ⟨(y, m, d), h⟩
  unfold dt
  rw [dif_pos hex]
  obtain ⟨a, b, c⟩ := (Classical.choose_spec hex).uniq h
  exact Prod.ext a (Prod.ext b c)
theorem ymd_eq {day y m d : Int} (h : IsDate day y m d) : yr day = y ∧ mo day = m ∧ dm day = d := by
  unfold yr mo dm; rw [dt_eq h]; exact ⟨rfl, rfl, rfl⟩
theorem year_of (day : Int) (h1 : -719162 ≤ day) (h2 : day < 2932897) : ∃ y, 1 ≤ y ∧ y ≤ 9999 ∧ ny y ≤ day ∧ day < ny (y + 1) := by
  have key : ∀ k : Nat, k ≤ 9999 → day < ny (k + 1) → ∃ y, 1 ≤ y ∧ y ≤ 9999 ∧ ny y ≤ day ∧ day < ny (y + 1) := by
    intro k
    induction k with
    | zero => intro _ h; have e : ny (((0 : Nat) : Int) + 1) = -719162 := by decide
              rw [e] at h; omega
    | succ k ih =>
      intro hk h
      by_cases hc : ny ((k : Int) + 1) ≤ day
      · exact ⟨(k : Int) + 1, by omega, by omega, hc, by simpa using h⟩
      · exact ih (by omega) (by omega)
  exact key 9999 (by omega) (by have := ny_10000; simpa using by omega)
theorem date_of (day : Int) (h1 : -719162 ≤ day) (h2 : day < 2932897) : IsDate day (yr day) (mo day) (dm day) := by
  obtain ⟨y, hy1, hy2, hy3, hy4⟩ := year_of day h1 h2
  have key : ∀ k : Nat, 1 ≤ k → k ≤ 12 → cnt y k 1 ≤ day → ∃ m d, IsDate day y m d := by
    intro k
    induction hk : 12 - k generalizing k with
    | zero =>
      intro a b h
      obtain rfl : k = 12 := by omega
      have e := cnt_dec y
      have l := mlen_12 y
      exact ⟨12, day - cnt y 12 1 + 1, hy1, hy2, by omega, by omega, by simp at h; omega, by simp at h; omega, by omega⟩
    | succ n ih =>
      intro a b h
      have e := cnt_next y k (by omega) (by omega)
      by_cases hc : cnt y ((k : Int) + 1) 1 ≤ day
      · exact ih (k + 1) (by omega) (by omega) (by omega) (by simpa using hc)
      · exact ⟨k, day - cnt y k 1 + 1, hy1, hy2, by omega, by omega, by omega, by omega, by omega⟩
  obtain ⟨m, d, hd⟩ := key 1 (by omega) (by omega) (by have := cnt_jan y; simpa using by omega)
  obtain ⟨e1, e2, e3⟩ := ymd_eq hd
  rw [e1, e2, e3]; exact hd
theorem yr_bd (day : Int) (h1 : -719162 ≤ day) (h2 : day < 2932897) : 1 ≤ yr day ∧ yr day ≤ 9999 ∧ ny (yr day) ≤ day ∧ day < ny (yr day + 1) := by
  have h := date_of day h1 h2
  exact ⟨h.1, h.2.1, h.inY.1, h.inY.2⟩
theorem dt_400 (day : Int) (h1 : -719162 ≤ day) (h2 : day < 2786800) : yr (day + 146097) = yr day + 400 ∧ mo (day + 146097) = mo day ∧ dm (day + 146097) = dm day := by
  have h := date_of day h1 (by omega)
  refine ymd_eq (h.shift ?_)
  have hb := yr_bd day h1 (by omega)
  have e : ny 9600 = 2786800 := by decide
  rcases Int.lt_or_le (yr day) 9600 with hl | hl
  · omega
  · have := ny_mono 9600 (yr day) hl; omega
end Go.Proofs.YthilkphnjffnhaaGreat
/- Plain weeks, months that are added, the numbers that the law on dates compares. -/
namespace Go.Proofs.YthilkphnjffnhaaGreat
set_option linter.unusedVariables false
set_option linter.unusedSimpArgs false
def wkd (d : Int) : Int := (d + 3) % 7 + 1
def beg (f mn y : Int) : Int := if mn ≤ 7 - (wkd (ny y) - f) % 7 then ny y - (wkd (ny y) - f) % 7 else ny y - (wkd (ny y) - f) % 7 + 7
noncomputable def wkY (f mn day : Int) : Int := if day < beg f mn (yr day) then yr day - 1 else if beg f mn (yr day + 1) ≤ day then yr day + 1 else yr day
theorem wkd_bd (d : Int) : 1 ≤ wkd d ∧ wkd d ≤ 7 := by unfold wkd; omega
theorem wkd_400 (d : Int) : wkd (d + 146097) = wkd d := by unfold wkd; omega
theorem beg_bd (f mn y : Int) : ny y - 6 ≤ beg f mn y ∧ beg f mn y ≤ ny y + 7 := by
  unfold beg
  have := wkd_bd (ny y)
  split <;> omega
theorem beg_bd2 (f mn y : Int) (h : mn ≤ 7) (h1 : 1 ≤ mn) : ny y - 6 ≤ beg f mn y ∧ beg f mn y ≤ ny y + 6 := by
  unfold beg
  have := wkd_bd (ny y)
  split <;> omega
theorem beg_400 (f mn y : Int) : beg f mn (y + 400) = beg f mn y + 146097 := by
  unfold beg
  rw [ny_400, wkd_400]
  split <;> omega
theorem wkY_400 (f mn day : Int) (h1 : -719162 ≤ day) (h2 : day < 2786800) : wkY f mn (day + 146097) = wkY f mn day + 400 := by
  obtain ⟨e1, _, _⟩ := dt_400 day h1 h2
  unfold wkY
  rw [e1, beg_400, show yr day + 400 + 1 = (yr day + 1) + 400 by omega, beg_400]
  by_cases c1 : day < beg f mn (yr day)
  · rw [if_pos c1, if_pos (by omega)]; omega
  · rw [if_neg c1, if_neg (by omega)]
    by_cases c2 : beg f mn (yr day + 1) ≤ day
    · rw [if_pos c2, if_pos (by omega)]
    · rw [if_neg c2, if_neg (by omega)]
theorem wkY_bd (f mn day : Int) (h : mn ≤ 7) (h0 : 1 ≤ mn) (h1 : -719162 ≤ day) (h2 : day < 2932897) : yr day - 1 ≤ wkY f mn day ∧ wkY f mn day ≤ yr day + 1 ∧ beg f mn (wkY f mn day) ≤ day := by
  have hy := yr_bd day h1 h2
  have b0 := beg_bd2 f mn (yr day - 1) h h0
  have n := ny_lt (yr day - 1)
  rw [show yr day - 1 + 1 = yr day by omega] at n
  unfold wkY
  split
  · exact ⟨by omega, by omega, by omega⟩
  · split
    · exact ⟨by omega, by omega, by omega⟩
    · exact ⟨by omega, by omega, by omega⟩
end Go.Proofs.YthilkphnjffnhaaGreat
/- The plain filters of days, numbers of periods; they repeat after 146097 days. -/
namespace Go.Proofs.YthilkphnjffnhaaGreat
set_option linter.unusedVariables false
set_option linter.unusedSimpArgs false
/-- the first day of the week of a day -/
def wkS (d s : Int) : Int := d - (wkd d - s) % 7
def fw (y s : Int) : Int := wkS (ny y + 3) s
def clampD (d : Int) : Int := if d < 2932897 then d else 2932896
noncomputable def wyr (d s : Int) : Int :=
  if wkS d s + 3 < ny (yr (clampD (wkS d s + 3))) then yr (clampD (wkS d s + 3)) - 1
  else if ny (yr (clampD (wkS d s + 3)) + 1) ≤ wkS d s + 3 then yr (clampD (wkS d s + 3)) + 1 else yr (clampD (wkS d s + 3))
theorem wkS_bd (d s : Int) : d - 6 ≤ wkS d s ∧ wkS d s ≤ d := by unfold wkS; omega
theorem wkS_400 (d s : Int) : wkS (d + 146097) s = wkS d s + 146097 := by unfold wkS; rw [wkd_400]; omega
theorem fw_400 (y s : Int) : fw (y + 400) s = fw y s + 146097 := by
  unfold fw; rw [ny_400, show ny y + 146097 + 3 = ny y + 3 + 146097 by omega, wkS_400]
theorem wyr_400 (d s : Int) (h1 : -719000 ≤ d) (h2 : d < 2786700) : wyr (d + 146097) s = wyr d s + 400 := by
  have hb := wkS_bd d s
  unfold wyr
  rw [wkS_400]
  have c1 : clampD (wkS d s + 146097 + 3) = clampD (wkS d s + 3) + 146097 := by unfold clampD; rw [if_pos (by omega), if_pos (by omega)]; omega
  have c2 : clampD (wkS d s + 3) = wkS d s + 3 := by unfold clampD; rw [if_pos (by omega)]
  obtain ⟨e1, _, _⟩ := dt_400 (wkS d s + 3) (by omega) (by omega)
  rw [c1, c2, e1, ny_400, show yr (wkS d s + 3) + 400 + 1 = (yr (wkS d s + 3) + 1) + 400 by omega, ny_400]
  by_cases q1 : wkS d s + 3 < ny (yr (wkS d s + 3))
  · rw [if_pos q1, if_pos (by omega)]; omega
  · rw [if_neg q1, if_neg (by omega)]
    by_cases q2 : ny (yr (wkS d s + 3) + 1) ≤ wkS d s + 3
    · rw [if_pos q2, if_pos (by omega)]
    · rw [if_neg q2, if_neg (by omega)]
theorem clampD_bd (d : Int) (h1 : -719162 ≤ d) : -719162 ≤ clampD d ∧ clampD d < 2932897 := by unfold clampD; split <;> omega
theorem wyr_bd (d s : Int) (h1 : -719000 ≤ d) (h2 : d < 2932897) : 0 ≤ wyr d s ∧ wyr d s ≤ 10000 := by
  have hb := wkS_bd d s
  have hc := clampD_bd (wkS d s + 3) (by omega)
  have hy := yr_bd _ hc.1 hc.2
  unfold wyr
  split
  · omega
  · split <;> omega

/-- a day with what the filters ask about it -/
structure DI where
  y : Int
  m : Int
  d : Int
  day : Int
  inY : Int
  ofY : Int
  inM : Int
  ofM : Int
noncomputable def diP (day : Int) : DI := ⟨yr day, mo day, dm day, day, day - ny (yr day) + 1, ny (yr day + 1) - ny (yr day), dm day, mlen (yr day) (mo day)⟩
theorem diP_400 (day : Int) (h1 : -719162 ≤ day) (h2 : day < 2786800) : diP (day + 146097) = { diP day with y := (diP day).y + 400, day := day + 146097 } := by
  obtain ⟨e1, e2, e3⟩ := dt_400 day h1 h2
  unfold diP
  rw [e1, e2, e3, mlen_400, ny_400, show yr day + 400 + 1 = (yr day + 1) + 400 by omega, ny_400]
  simp only [DI.mk.injEq]
  refine ⟨trivial, trivial, trivial, trivial, ?_, ?_, trivial, trivial⟩ <;> omega
theorem diP_bd (day : Int) (h1 : -719162 ≤ day) (h2 : day < 2932897) : (1 ≤ (diP day).y ∧ (diP day).y ≤ 9999) ∧ (1 ≤ (diP day).m ∧ (diP day).m ≤ 12) ∧ (1 ≤ (diP day).inY ∧ (diP day).inY ≤ (diP day).ofY) ∧ (365 ≤ (diP day).ofY ∧ (diP day).ofY ≤ 366) ∧ (1 ≤ (diP day).inM ∧ (diP day).inM ≤ (diP day).ofM) ∧ (28 ≤ (diP day).ofM ∧ (diP day).ofM ≤ 31) := by
  have h := date_of day h1 h2
  have hy := h.inY
  have hl := ny_lt (yr day)
  have hm := mlen_bd (yr day) (mo day)
  obtain ⟨a1, a2, a3, a4, a5, a6, a7⟩ := h
  unfold diP
  dsimp only
  omega
end Go.Proofs.YthilkphnjffnhaaGreat
