/- How a rule lies in memory; the library's IndexFunc and ContainsFunc over closures that may make memory. -/
import Derived.Test.YthilkphnjffnhaaGreatJB
import Derived.Deep.LoopGhost
import Derived.Shelf.Abstract
import Derived.Test.YthilkphnjffnhaaGreatJA
namespace Go.Proofs.YthilkphnjffnhaaGreat
open Go.RowKit
set_option linter.unusedVariables false
set_option linter.unusedSimpArgs false

/-- a slice of ints: its address, its capacity, its elements -/
structure SlI where
  A : Option Addr
  c : Nat
  l : List Int
abbrev SlI.v (s : SlI) : Value := .slice s.A s.l.length s.c
/-- its cells lie in w -/
def SlI.In (s : SlI) (w : World) : Prop := s.l.length ≤ s.c ∧ s.l.length * 8 ≤ 140737488351232 ∧ (s.l ≠ [] → ∃ b off, s.A = some ⟨b, off, none⟩ ∧ ∀ i (h : i < s.l.length), w.cell? ⟨b, off + i, none⟩ = some (.int .i64 s.l[i]))
/-- a slice of weekdays with numbers -/
structure SlO where
  A : Option Addr
  c : Nat
  l : List (Int × Int)
abbrev SlO.v (s : SlO) : Value := .slice s.A s.l.length s.c
def SlO.In (s : SlO) (w : World) : Prop := s.l.length ≤ s.c ∧ s.l.length * 8 ≤ 140737488351232 ∧ (s.l ≠ [] → ∃ b off, s.A = some ⟨b, off, none⟩ ∧ ∀ i (h : i < s.l.length), w.cell? ⟨b, off + i * 2, none⟩ = some (.int .i64 s.l[i].1) ∧ w.cell? ⟨b, off + i * 2 + 1, none⟩ = some (.int .i64 s.l[i].2))
theorem cell_of_below {w w' : World} (h : Below w.heap.size w w') {a : Addr} {v : Value} (hc : w.cell? a = some v) : w'.cell? a = some v :=
  (h.cell (World.block_lt_of_cell? w a hc)).trans hc
theorem SlI.In.below {s : SlI} {w w' : World} (h : s.In w) (hb : Below w.heap.size w w') : s.In w' :=
  ⟨h.1, h.2.1, fun hn => by obtain ⟨b, off, ha, hc⟩ := h.2.2 hn; exact ⟨b, off, ha, fun i hi => cell_of_below hb (hc i hi)⟩⟩
theorem SlO.In.below {s : SlO} {w w' : World} (h : s.In w) (hb : Below w.heap.size w w') : s.In w' :=
  ⟨h.1, h.2.1, fun hn => by obtain ⟨b, off, ha, hc⟩ := h.2.2 hn; exact ⟨b, off, ha, fun i hi => ⟨cell_of_below hb (hc i hi).1, cell_of_below hb (hc i hi).2⟩⟩⟩

/-- a rule -/
structure Rc where
  f : Int
  iv : Int
  ct : Int
  un : Int
  mo : SlI
  md : SlI
  yd : SlI
  wk : SlI
  dy : SlO
  ho : SlI
  mi : SlI
  se : SlI
  po : SlI
  ws : Int
abbrev Rc.cells (r : Rc) : Array Value := #[.int .i64 r.f, .int .i64 r.iv, .int .i64 r.ct, .int .i64 r.un, r.mo.v, r.md.v, r.yd.v, r.wk.v, r.dy.v, r.ho.v, r.mi.v, r.se.v, r.po.v, .int .i64 r.ws]
abbrev Rc.val (r : Rc) : Value := .agg r.cells
structure Rc.In (r : Rc) (w : World) : Prop where
  mo : r.mo.In w
  md : r.md.In w
  yd : r.yd.In w
  wk : r.wk.In w
  dy : r.dy.In w
  ho : r.ho.In w
  mi : r.mi.In w
  se : r.se.In w
  po : r.po.In w
theorem Rc.In.below {r : Rc} {w w' : World} (h : r.In w) (hb : Below w.heap.size w w') : r.In w' :=
  ⟨h.mo.below hb, h.md.below hb, h.yd.below hb, h.wk.below hb, h.dy.below hb, h.ho.below hb, h.mi.below hb, h.se.below hb, h.po.below hb⟩

/-- the first place at which p holds, or -1 -/
def idxP {α : Type} (p : α → Bool) (l : List α) : Int := if l.any p then (l.findIdx p : Int) else -1
theorem idxP_any {α : Type} (p : α → Bool) (l : List α) : decide (0 ≤ idxP p l) = l.any p := by
  unfold idxP; cases h : l.any p <;> simp
theorem idxP_hit {α : Type} (p : α → Bool) (l : List α) (k : Nat) (h : k < l.length) (h1 : p l[k] = true) (h2 : ∀ j (hj : j < k), p (l[j]'(by omega)) = false) : idxP p l = k := by
  have ha : l.any p = true := List.any_eq_true.2 ⟨l[k], List.getElem_mem h, h1⟩
  unfold idxP
  rw [if_pos ha]
  have : l.findIdx p = k := (List.findIdx_eq h).2 ⟨h1, fun j hj => by rw [h2 j hj]⟩
  rw [this]
theorem idxP_none {α : Type} (p : α → Bool) (l : List α) (h2 : ∀ j (hj : j < l.length), p l[j] = false) : idxP p l = -1 := by
  have ha : l.any p = false := by
    rw [List.any_eq_false]
    intro x hx
    obtain ⟨i, hi, rfl⟩ := List.mem_iff_getElem.1 hx
    rw [h2 i hi]; simp
  unfold idxP
  rw [ha]; rfl

/-- what is asked of a closure: it answers p, and makes memory at most -/
def PredC (g : Nat) (lb : Array Value) {α : Type} (enc : α → Value) (p : α → Bool) (l : List α) (w : World) : Prop :=
  ∀ W x, x ∈ l → Below w.heap.size w W → Calls Tryz.prog g (#[enc x] ++ lb) W fun e w' => e = .returned (.bool (p x)) ∧ Below W.heap.size W w'

set_option maxHeartbeats 1000000 in
theorem idxf_int (p : Int → Bool) (g : Nat) (lb : Array Value) (eg : ∀ args w, (callFunc g args).run Tryz.prog w = .ok (.enter g args) w) (s : SlI) (w : World) (hs : s.In w) (hp : PredC g lb (Value.int .i64) p s.l w) :
    Calls Tryz.prog 71 #[s.v, .func (.func g) #[] lb] w fun e w' => e = .returned (.int .i64 (idxP p s.l)) ∧ Below w.heap.size w w' := by
  obtain ⟨A, c, l⟩ := s
  obtain ⟨_, hl, hc⟩ := hs
  dsimp only at hl hc
  show Calls Tryz.prog 71 #[.slice A l.length c, .func (.func g) #[] lb] w fun e w' => e = .returned (.int .i64 (idxP p l)) ∧ Below w.heap.size w w'
  have HP := Lib.hid hp
  have HC := Lib.hid hc
  have Hit := Lib.hid (idxP_hit p l)
  have Non := Lib.hid (idxP_none p l)
  clear hp hc
  go_enter Tryz.func71, Tryz.ntmps71
  go_wp2
  go_loopg [5, 8] l.length (fun gg _ s8 wr => ∃ kk : Nat, kk ≤ l.length ∧ l.length - kk ≤ gg ∧ s8 = .int .i64 kk ∧ Hid (Below w.heap.size w wr) ∧ Hid (∀ j (hj : j < kk) (hl : j < l.length), p l[j] = false))
  case atStart => exact ⟨0, Nat.zero_le _, by omega, rfl, Below.refl _ _, fun j hj => absurd hj (Nat.not_lt_zero _)⟩
  case round =>
    obtain ⟨kk, hkk, hg, rfl, HB, HA⟩ := hrel
    by_cases hlt : kk < l.length
    · have hltz : (kk : Int) < (l.length : Int) := by omega
      obtain ⟨b, off, rfl, hcc⟩ := HC.out (by intro h; rw [h] at hlt; simp at hlt)
      have hcell := cell_of_below HB.out (hcc kk hlt)
      have hmem : l[kk] ∈ l := List.getElem_mem hlt
      clear hcc
      generalize hy : l[kk] = y at hcell hmem
      have HY := Lib.hid hy
      clear hy
      have hcall := HP.out wr y hmem HB.out
      clear hmem
      cases hq : p y with
      | true =>
        rw [hq] at hcall
        go_wp2_with (go_at_fn g; refine hcall.mono ?_; rintro e w' ⟨rfl, hb1⟩; obtain ⟨x, rfl⟩ := hb1.toExt; clear hb1)
        go_ret
        exact ⟨ret_int (Hit.out kk hlt (by rw [HY.out]; exact hq) (fun j hj => HA.out j hj (by omega))).symm, HB.out.ext HB.out.size _⟩
      | false =>
        rw [hq] at hcall
        go_wp2_with (go_at_fn g; refine hcall.mono ?_; rintro e w' ⟨rfl, hb1⟩; obtain ⟨x, rfl⟩ := hb1.toExt; clear hb1)
        go_roundg (l.length - (kk + 1))
        case measure => omega
        case rel =>
          refine ⟨kk + 1, by omega, by omega, by go_num, HB.out.ext HB.out.size _, (show Hid _ from fun j hj hl => ?_)⟩
          by_cases e : j = kk
          · subst e
            rw [HY.out]; exact hq
          · exact HA.out j (by omega) hl
    · have hltz : ¬ (kk : Int) < (l.length : Int) := by omega
      have HK := Lib.hid (show kk = l.length by omega)
      go_wp2
      go_ret
      exact ⟨ret_int (Non.out (fun j hj => HA.out j (by rw [HK.out]; exact hj) hj)).symm, HB.out⟩

/-- a slice of slices of ints -/
structure SlS where
  A : Option Addr
  c : Nat
  l : List SlI
abbrev SlS.v (s : SlS) : Value := .slice s.A s.l.length s.c
def SlS.In (s : SlS) (w : World) : Prop := s.l.length ≤ s.c ∧ s.l.length * 8 ≤ 140737488351232 ∧ (s.l ≠ [] → ∃ b off, s.A = some ⟨b, off, none⟩ ∧ ∀ i (h : i < s.l.length), w.cell? ⟨b, off + i, none⟩ = some s.l[i].v)
set_option maxHeartbeats 1000000 in
theorem idxf_sl (p : SlI → Bool) (g : Nat) (lb : Array Value) (eg : ∀ args w, (callFunc g args).run Tryz.prog w = .ok (.enter g args) w) (s : SlS) (w : World) (hs : s.In w) (hp : PredC g lb (SlI.v) p s.l w) :
    Calls Tryz.prog 97 #[s.v, .func (.func g) #[] lb] w fun e w' => e = .returned (.int .i64 (idxP p s.l)) ∧ Below w.heap.size w w' := by
  obtain ⟨A, c, l⟩ := s
  obtain ⟨_, hl, hc⟩ := hs
  dsimp only at hl hc
  show Calls Tryz.prog 97 #[.slice A l.length c, .func (.func g) #[] lb] w fun e w' => e = .returned (.int .i64 (idxP p l)) ∧ Below w.heap.size w w'
  have HP := Lib.hid hp
  have HC := Lib.hid hc
  have Hit := Lib.hid (idxP_hit p l)
  have Non := Lib.hid (idxP_none p l)
  clear hp hc
  go_enter Tryz.func97, Tryz.ntmps97
  go_wp2
  go_loopg [5, 8] l.length (fun gg _ s8 wr => ∃ kk : Nat, kk ≤ l.length ∧ l.length - kk ≤ gg ∧ s8 = .int .i64 kk ∧ Hid (Below w.heap.size w wr) ∧ Hid (∀ j (hj : j < kk) (hl : j < l.length), p l[j] = false))
  case atStart => exact ⟨0, Nat.zero_le _, by omega, rfl, Below.refl _ _, fun j hj => absurd hj (Nat.not_lt_zero _)⟩
  case round =>
    obtain ⟨kk, hkk, hg, rfl, HB, HA⟩ := hrel
    by_cases hlt : kk < l.length
    · have hltz : (kk : Int) < (l.length : Int) := by omega
      obtain ⟨b, off, rfl, hcc⟩ := HC.out (by intro h; rw [h] at hlt; simp at hlt)
      have hcell := cell_of_below HB.out (hcc kk hlt)
      have hmem : l[kk] ∈ l := List.getElem_mem hlt
      clear hcc
      generalize hy : l[kk] = y at hcell hmem
      have HY := Lib.hid hy
      clear hy
      have hcall := HP.out wr y hmem HB.out
      clear hmem
      cases hq : p y with
      | true =>
        rw [hq] at hcall
        go_wp2_with (go_at_fn g; refine hcall.mono ?_; rintro e w' ⟨rfl, hb1⟩; obtain ⟨x, rfl⟩ := hb1.toExt; clear hb1)
        go_ret
        exact ⟨ret_int (Hit.out kk hlt (by rw [HY.out]; exact hq) (fun j hj => HA.out j hj (by omega))).symm, HB.out.ext HB.out.size _⟩
      | false =>
        rw [hq] at hcall
        go_wp2_with (go_at_fn g; refine hcall.mono ?_; rintro e w' ⟨rfl, hb1⟩; obtain ⟨x, rfl⟩ := hb1.toExt; clear hb1)
        go_roundg (l.length - (kk + 1))
        case measure => omega
        case rel =>
          refine ⟨kk + 1, by omega, by omega, by go_num, HB.out.ext HB.out.size _, (show Hid _ from fun j hj hl => ?_)⟩
          by_cases e : j = kk
          · subst e
            rw [HY.out]; exact hq
          · exact HA.out j (by omega) hl
    · have hltz : ¬ (kk : Int) < (l.length : Int) := by omega
      have HK := Lib.hid (show kk = l.length by omega)
      go_wp2
      go_ret
      exact ⟨ret_int (Non.out (fun j hj => HA.out j (by rw [HK.out]; exact hj) hj)).symm, HB.out⟩
set_option maxHeartbeats 1000000 in
theorem idxf_ord (p : Int × Int → Bool) (g : Nat) (lb : Array Value) (eg : ∀ args w, (callFunc g args).run Tryz.prog w = .ok (.enter g args) w) (s : SlO) (w : World) (hs : s.In w) (hp : PredC g lb (fun x : Int × Int => .agg #[.int .i64 x.1, .int .i64 x.2]) p s.l w) :
    Calls Tryz.prog 111 #[s.v, .func (.func g) #[] lb] w fun e w' => e = .returned (.int .i64 (idxP p s.l)) ∧ Below w.heap.size w w' := by
  obtain ⟨A, c, l⟩ := s
  obtain ⟨_, hl, hc⟩ := hs
  dsimp only at hl hc
  show Calls Tryz.prog 111 #[.slice A l.length c, .func (.func g) #[] lb] w fun e w' => e = .returned (.int .i64 (idxP p l)) ∧ Below w.heap.size w w'
  have HP := Lib.hid hp
  have HC := Lib.hid hc
  have Hit := Lib.hid (idxP_hit p l)
  have Non := Lib.hid (idxP_none p l)
  clear hp hc
  go_enter Tryz.func111, Tryz.ntmps111
  go_wp2
  go_loopg [5, 8] l.length (fun gg _ s8 wr => ∃ kk : Nat, kk ≤ l.length ∧ l.length - kk ≤ gg ∧ s8 = .int .i64 kk ∧ Hid (Below w.heap.size w wr) ∧ Hid (∀ j (hj : j < kk) (hl : j < l.length), p l[j] = false))
  case atStart => exact ⟨0, Nat.zero_le _, by omega, rfl, Below.refl _ _, fun j hj => absurd hj (Nat.not_lt_zero _)⟩
  case round =>
    obtain ⟨kk, hkk, hg, rfl, HB, HA⟩ := hrel
    by_cases hlt : kk < l.length
    · have hltz : (kk : Int) < (l.length : Int) := by omega
      obtain ⟨b, off, rfl, hcc⟩ := HC.out (by intro h; rw [h] at hlt; simp at hlt)
      have hcell := cell_of_below HB.out (hcc kk hlt).1
      have hcell2 := cell_of_below HB.out (hcc kk hlt).2
      have hmem : l[kk] ∈ l := List.getElem_mem hlt
      clear hcc
      generalize hy : l[kk] = y at hcell hcell2 hmem
      have HY := Lib.hid hy
      clear hy
      have hcall := HP.out wr y hmem HB.out
      clear hmem
      cases hq : p y with
      | true =>
        rw [hq] at hcall
        go_wp2_with (go_at_fn g; refine hcall.mono ?_; rintro e w' ⟨rfl, hb1⟩; obtain ⟨x, rfl⟩ := hb1.toExt; clear hb1)
        go_ret
        exact ⟨ret_int (Hit.out kk hlt (by rw [HY.out]; exact hq) (fun j hj => HA.out j hj (by omega))).symm, HB.out.ext HB.out.size _⟩
      | false =>
        rw [hq] at hcall
        go_wp2_with (go_at_fn g; refine hcall.mono ?_; rintro e w' ⟨rfl, hb1⟩; obtain ⟨x, rfl⟩ := hb1.toExt; clear hb1)
        go_roundg (l.length - (kk + 1))
        case measure => omega
        case rel =>
          refine ⟨kk + 1, by omega, by omega, by go_num, HB.out.ext HB.out.size _, (show Hid _ from fun j hj hl => ?_)⟩
          by_cases e : j = kk
          · subst e
            rw [HY.out]; exact hq
          · exact HA.out j (by omega) hl
    · have hltz : ¬ (kk : Int) < (l.length : Int) := by omega
      have HK := Lib.hid (show kk = l.length by omega)
      go_wp2
      go_ret
      exact ⟨ret_int (Non.out (fun j hj => HA.out j (by rw [HK.out]; exact hj) hj)).symm, HB.out⟩

theorem contf_int (p : Int → Bool) (g : Nat) (lb : Array Value) (eg : ∀ args w, (callFunc g args).run Tryz.prog w = .ok (.enter g args) w) (s : SlI) (w : World) (hs : s.In w) (hp : PredC g lb (Value.int .i64) p s.l w) :
    Calls Tryz.prog 50 #[s.v, .func (.func g) #[] lb] w fun e w' => e = .returned (.bool (s.l.any p)) ∧ Below w.heap.size w w' := by
  have c := idxf_int p g lb eg s w hs hp
  have ha := idxP_any p s.l
  have HA := Lib.hid ha
  have C := Lib.hid c
  clear hs hp c ha eg
  obtain ⟨A, c, l⟩ := s
  dsimp only at C HA
  show Calls Tryz.prog 50 #[.slice A l.length c, .func (.func g) #[] lb] w fun e w' => e = .returned (.bool (l.any p)) ∧ Below w.heap.size w w'
  rw [← HA.out]
  go_enter Tryz.func50, Tryz.ntmps50
  go_wp2_with fail
  refine C.out.mono ?_
  rintro e w1 ⟨rfl, hb1⟩; obtain ⟨x, rfl⟩ := hb1.toExt; clear hb1
  go_wp2
  go_ret
  exact ⟨rfl, (by repeat (first | exact Below.refl _ _ | assumption | refine RowKit.Below.ext ?_ (by first | (simp; done) | (simp; omega) | omega) _ | refine Below.alloc ?_ (by first | (simp; done) | (simp; omega) | omega) _ | refine Below.drew ?_ | refine RowKit.Below.drawnN ?_ _ | refine Below.setCell ?_ (by first | (simp; done) | (simp; omega) | omega) _))⟩

theorem contf_sl (p : SlI → Bool) (g : Nat) (lb : Array Value) (eg : ∀ args w, (callFunc g args).run Tryz.prog w = .ok (.enter g args) w) (s : SlS) (w : World) (hs : s.In w) (hp : PredC g lb (SlI.v) p s.l w) :
    Calls Tryz.prog 85 #[s.v, .func (.func g) #[] lb] w fun e w' => e = .returned (.bool (s.l.any p)) ∧ Below w.heap.size w w' := by
  have c := idxf_sl p g lb eg s w hs hp
  have ha := idxP_any p s.l
  have HA := Lib.hid ha
  have C := Lib.hid c
  clear hs hp c ha eg
  obtain ⟨A, c, l⟩ := s
  dsimp only at C HA
  show Calls Tryz.prog 85 #[.slice A l.length c, .func (.func g) #[] lb] w fun e w' => e = .returned (.bool (l.any p)) ∧ Below w.heap.size w w'
  rw [← HA.out]
  go_enter Tryz.func85, Tryz.ntmps85
  go_wp2_with fail
  refine C.out.mono ?_
  rintro e w1 ⟨rfl, hb1⟩; obtain ⟨x, rfl⟩ := hb1.toExt; clear hb1
  go_wp2
  go_ret
  exact ⟨rfl, (by repeat (first | exact Below.refl _ _ | assumption | refine RowKit.Below.ext ?_ (by first | (simp; done) | (simp; omega) | omega) _ | refine Below.alloc ?_ (by first | (simp; done) | (simp; omega) | omega) _ | refine Below.drew ?_ | refine RowKit.Below.drawnN ?_ _ | refine Below.setCell ?_ (by first | (simp; done) | (simp; omega) | omega) _))⟩

theorem contf_ord (p : Int × Int → Bool) (g : Nat) (lb : Array Value) (eg : ∀ args w, (callFunc g args).run Tryz.prog w = .ok (.enter g args) w) (s : SlO) (w : World) (hs : s.In w) (hp : PredC g lb (fun x : Int × Int => .agg #[.int .i64 x.1, .int .i64 x.2]) p s.l w) :
    Calls Tryz.prog 95 #[s.v, .func (.func g) #[] lb] w fun e w' => e = .returned (.bool (s.l.any p)) ∧ Below w.heap.size w w' := by
  have c := idxf_ord p g lb eg s w hs hp
  have ha := idxP_any p s.l
  have HA := Lib.hid ha
  have C := Lib.hid c
  clear hs hp c ha eg
  obtain ⟨A, c, l⟩ := s
  dsimp only at C HA
  show Calls Tryz.prog 95 #[.slice A l.length c, .func (.func g) #[] lb] w fun e w' => e = .returned (.bool (l.any p)) ∧ Below w.heap.size w w'
  rw [← HA.out]
  go_enter Tryz.func95, Tryz.ntmps95
  go_wp2_with fail
  refine C.out.mono ?_
  rintro e w1 ⟨rfl, hb1⟩; obtain ⟨x, rfl⟩ := hb1.toExt; clear hb1
  go_wp2
  go_ret
  exact ⟨rfl, (by repeat (first | exact Below.refl _ _ | assumption | refine RowKit.Below.ext ?_ (by first | (simp; done) | (simp; omega) | omega) _ | refine Below.alloc ?_ (by first | (simp; done) | (simp; omega) | omega) _ | refine Below.drew ?_ | refine RowKit.Below.drawnN ?_ _ | refine Below.setCell ?_ (by first | (simp; done) | (simp; omega) | omega) _))⟩
end Go.Proofs.YthilkphnjffnhaaGreat
/- The walks of recurrence.between and recurrence.nth. -/
namespace Go.Proofs.YthilkphnjffnhaaGreat
open Go.RowKit
set_option linter.unusedVariables false
set_option linter.unusedSimpArgs false

/-- an element that lies outside -/
def outP (lo hi : Int) (sg : Bool) (n : Int) : Bool := (decide (n < lo) || decide (hi < n)) && !(sg && decide (-hi ≤ n) && decide (n ≤ -lo))
def btwP (l : List Int) (lo hi : Int) (sg : Bool) : Bool := decide (l.length ≤ 60) && !(l.any (outP lo hi sg))

set_option maxHeartbeats 4000000 in
theorem between1_any (lo hi : Int) (sg : Bool) (n : Int) (b1 b2 b3 : Nat) (w : World) (h1 : 0 ≤ lo) (h2 : lo ≤ 1000) (h3 : 0 ≤ hi) (h4 : hi ≤ 1000)
    (c1 : w.cell? ⟨b1, 0, none⟩ = some (.int .i64 lo)) (c2 : w.cell? ⟨b2, 0, none⟩ = some (.int .i64 hi)) (c3 : w.cell? ⟨b3, 0, none⟩ = some (.bool sg)) :
    Calls Tryz.prog 51 #[.int .i64 n, .pointer (some ⟨b1, 0, none⟩), .pointer (some ⟨b2, 0, none⟩), .pointer (some ⟨b3, 0, none⟩)] w fun e w' => e = .returned (.bool (outP lo hi sg n)) ∧ w = w' := by
  have key : outP lo hi sg n = ((decide (n < lo) || decide (hi < n)) && !(sg && decide (-hi ≤ n) && decide (n ≤ -lo))) := rfl
  by_cases a : n < lo
  · have d1 : decide (n < lo) = true := by simp [a]
    cases sg
    · simp only [d1, Bool.true_or, Bool.false_and, Bool.not_false, Bool.and_true] at key
      rw [key]
      clear key
      go_enter Tryz.func51, Tryz.ntmps51
      go_wp2
      go_ret
      exact ⟨rfl, rfl⟩
    · by_cases b : -hi ≤ n
      · have d2 : decide (-hi ≤ n) = true := by simp [b]
        by_cases c : n ≤ -lo
        · have d3 : decide (n ≤ -lo) = true := by simp [c]
          simp only [d1, d2, d3, Bool.true_or, Bool.true_and, Bool.and_true, Bool.not_true] at key
          rw [key]
          clear key
          go_enter Tryz.func51, Tryz.ntmps51
          go_wp2
          go_ret
          exact ⟨rfl, rfl⟩
        · have d3 : decide (n ≤ -lo) = false := by simp; omega
          simp only [d1, d2, d3, Bool.true_or, Bool.true_and, Bool.and_false, Bool.not_false] at key
          rw [key]
          clear key
          go_enter Tryz.func51, Tryz.ntmps51
          go_wp2
          go_ret
          exact ⟨rfl, rfl⟩
      · have d2 : decide (-hi ≤ n) = false := by simp; omega
        simp only [d1, d2, Bool.true_or, Bool.true_and, Bool.false_and, Bool.and_false, Bool.not_false] at key
        rw [key]
        clear key
        go_enter Tryz.func51, Tryz.ntmps51
        go_wp2
        go_ret
        exact ⟨rfl, rfl⟩
  · have d1 : decide (n < lo) = false := by simp; omega
    by_cases a2 : hi < n
    · have d0 : decide (hi < n) = true := by simp [a2]
      cases sg
      · simp only [d1, d0, Bool.false_or, Bool.false_and, Bool.not_false, Bool.and_true] at key
        rw [key]
        clear key
        go_enter Tryz.func51, Tryz.ntmps51
        go_wp2
        go_ret
        exact ⟨rfl, rfl⟩
      · have d2 : decide (-hi ≤ n) = true := by simp; omega
        by_cases c : n ≤ -lo
        · have d3 : decide (n ≤ -lo) = true := by simp [c]
          simp only [d1, d0, d2, d3, Bool.false_or, Bool.true_and, Bool.and_true, Bool.not_true] at key
          rw [key]
          clear key
          go_enter Tryz.func51, Tryz.ntmps51
          go_wp2
          go_ret
          exact ⟨rfl, rfl⟩
        · have d3 : decide (n ≤ -lo) = false := by simp; omega
          simp only [d1, d0, d2, d3, Bool.false_or, Bool.true_and, Bool.and_false, Bool.not_false] at key
          rw [key]
          clear key
          go_enter Tryz.func51, Tryz.ntmps51
          go_wp2
          go_ret
          exact ⟨rfl, rfl⟩
    · have d0 : decide (hi < n) = false := by simp; omega
      simp only [d1, d0, Bool.or_self, Bool.false_and] at key
      rw [key]
      clear key
      go_enter Tryz.func51, Tryz.ntmps51
      go_wp2
      go_ret
      exact ⟨rfl, rfl⟩

set_option maxHeartbeats 1000000 in
theorem between_any (s : SlI) (lo hi : Int) (sg : Bool) (w : World) (hs : s.In w) (h1 : 0 ≤ lo) (h2 : lo ≤ 1000) (h3 : 0 ≤ hi) (h4 : hi ≤ 1000) :
    Calls Tryz.prog 25 #[s.v, .int .i64 lo, .int .i64 hi, .bool sg] w fun e w' => e = .returned (.bool (btwP s.l lo hi sg)) ∧ Below w.heap.size w w' := by
  have key : btwP s.l lo hi sg = (decide (s.l.length ≤ 60) && !(s.l.any (outP lo hi sg))) := rfl
  have hl := hs.2.1
  by_cases hc : s.l.length ≤ 60
  · have eg : ∀ args w, (callFunc 51 args).run Tryz.prog w = .ok (.enter 51 args) w := enters_of Tryz.func51 (by kernel_rfl) rfl
    have cC := fun (W : World) (hb : Below w.heap.size w W) (c1 : W.cell? ⟨w.heap.size, 0, none⟩ = some (.int .i64 lo)) (c2 : W.cell? ⟨w.heap.size + 1, 0, none⟩ = some (.int .i64 hi)) (c3 : W.cell? ⟨w.heap.size + 1 + 1, 0, none⟩ = some (.bool sg)) =>
      contf_int (outP lo hi sg) 51 #[.pointer (some ⟨w.heap.size, 0, none⟩), .pointer (some ⟨w.heap.size + 1, 0, none⟩), .pointer (some ⟨w.heap.size + 1 + 1, 0, none⟩)] eg s W (hs.below hb)
        (fun W' x _ hb' => (between1_any lo hi sg x _ _ _ W' h1 h2 h3 h4 (cell_of_below hb' c1) (cell_of_below hb' c2) (cell_of_below hb' c3)).mono fun e w' h => ⟨h.1, h.2 ▸ Below.refl _ _⟩)
    have d : decide (s.l.length ≤ 60) = true := by simp [hc]
    rw [d, Bool.true_and] at key
    rw [key]
    have CC := Lib.hid cC
    clear cC key hs eg d
    obtain ⟨A, c, l⟩ := s
    dsimp only at CC hl hc ⊢
    show Calls Tryz.prog 25 #[.slice A l.length c, .int .i64 lo, .int .i64 hi, .bool sg] w _
    have hcz : (l.length : Int) ≤ 60 := by omega
    go_enter Tryz.func25, Tryz.ntmps25
    go_wp2_with fail
    refine Calls.mono (CC.out _ ?_ ?_ ?_ ?_) ?_
    · exact (by repeat (first | exact Below.refl _ _ | assumption | refine RowKit.Below.ext ?_ (by first | (simp; done) | (simp; omega) | omega) _ | refine Below.alloc ?_ (by first | (simp; done) | (simp; omega) | omega) _ | refine Below.drew ?_ | refine RowKit.Below.drawnN ?_ _ | refine Below.setCell ?_ (by first | (simp; done) | (simp; omega) | omega) _))
    · go_simp
    · go_simp
    · go_simp
    rintro e w1 ⟨rfl, hb1⟩; obtain ⟨x, rfl⟩ := hb1.toExt; clear hb1
    go_wp2
    go_ret
    exact ⟨rfl, (by repeat (first | exact Below.refl _ _ | assumption | refine RowKit.Below.ext ?_ (by first | (simp; done) | (simp; omega) | omega) _ | refine Below.alloc ?_ (by first | (simp; done) | (simp; omega) | omega) _ | refine Below.drew ?_ | refine RowKit.Below.drawnN ?_ _ | refine Below.setCell ?_ (by first | (simp; done) | (simp; omega) | omega) _))⟩
  · have d : decide (s.l.length ≤ 60) = false := by simp; omega
    rw [d, Bool.false_and] at key
    rw [key]
    clear key hs d
    obtain ⟨A, c, l⟩ := s
    dsimp only at hl hc ⊢
    show Calls Tryz.prog 25 #[.slice A l.length c, .int .i64 lo, .int .i64 hi, .bool sg] w _
    have hcz : ¬ (l.length : Int) ≤ 60 := by omega
    go_enter Tryz.func25, Tryz.ntmps25
    go_wp2
    go_ret
    exact ⟨rfl, (by repeat (first | exact Below.refl _ _ | assumption | refine RowKit.Below.ext ?_ (by first | (simp; done) | (simp; omega) | omega) _ | refine Below.alloc ?_ (by first | (simp; done) | (simp; omega) | omega) _ | refine Below.drew ?_ | refine RowKit.Below.drawnN ?_ _ | refine Below.setCell ?_ (by first | (simp; done) | (simp; omega) | omega) _))⟩
end Go.Proofs.YthilkphnjffnhaaGreat
/- The walks of recurrence.nth, counted. -/
namespace Go.Proofs.YthilkphnjffnhaaGreat
open Go.RowKit
set_option linter.unusedVariables false
set_option linter.unusedSimpArgs false

def ordP (wd n k : Int) (o : Int × Int) : Bool := (o.2 == wd) && ((o.1 == 0) || (o.1 == (n - 1) / 7 + 1) || (o.1 == -((k - n) / 7 + 1)))
def nthP (l : List (Int × Int)) (wd n k : Int) : Bool := decide (l.length = 0) || l.any (ordP wd n k)

set_option maxHeartbeats 4000000 in
theorem nth1_any (wd n k : Int) (a b : Int) (b1 b2 b3 : Nat) (w : World) (h1 : 1 ≤ n) (h2 : n ≤ k) (h3 : k ≤ 400)
    (c1 : w.cell? ⟨b1, 0, none⟩ = some (.int .i64 wd)) (c2 : w.cell? ⟨b2, 0, none⟩ = some (.int .i64 n)) (c3 : w.cell? ⟨b3, 0, none⟩ = some (.int .i64 k)) :
    Calls Tryz.prog 96 #[.agg #[.int .i64 a, .int .i64 b], .pointer (some ⟨b1, 0, none⟩), .pointer (some ⟨b2, 0, none⟩), .pointer (some ⟨b3, 0, none⟩)] w fun e w' => e = .returned (.bool (ordP wd n k (a, b))) ∧ Below w.heap.size w w' := by
  have key : ordP wd n k (a, b) = ((b == wd) && ((a == 0) || (a == (n - 1) / 7 + 1) || (a == -((k - n) / 7 + 1)))) := rfl
  have l1 := World.block_lt_of_cell? w _ c1
  have l2 := World.block_lt_of_cell? w _ c2
  have l3 := World.block_lt_of_cell? w _ c3
  dsimp only at l1 l2 l3
  cases e1 : (b == wd)
  · rw [e1, Bool.false_and] at key
    rw [key]
    clear key
    go_enter Tryz.func96, Tryz.ntmps96
    go_wp2
    go_ret
    exact ⟨rfl, (by repeat (first | exact Below.refl _ _ | assumption | refine RowKit.Below.ext ?_ (by first | (simp; done) | (simp; omega) | omega) _ | refine Below.alloc ?_ (by first | (simp; done) | (simp; omega) | omega) _ | refine Below.drew ?_ | refine RowKit.Below.drawnN ?_ _ | refine Below.setCell ?_ (by first | (simp; done) | (simp; omega) | omega) _))⟩
  · cases e2 : (a == 0)
    · cases e3 : (a == (n - 1) / 7 + 1)
      · cases e4 : (a == -((k - n) / 7 + 1))
        all_goals
          rw [e1, e2, e3, e4] at key
          simp only [Bool.true_and, Bool.or_true, Bool.or_self, Bool.false_or] at key
          rw [key]
          clear key
          go_enter Tryz.func96, Tryz.ntmps96
          go_wp2
          go_ret
          exact ⟨rfl, (by repeat (first | exact Below.refl _ _ | assumption | refine RowKit.Below.ext ?_ (by first | (simp; done) | (simp; omega) | omega) _ | refine Below.alloc ?_ (by first | (simp; done) | (simp; omega) | omega) _ | refine Below.drew ?_ | refine RowKit.Below.drawnN ?_ _ | refine Below.setCell ?_ (by first | (simp; done) | (simp; omega) | omega) _))⟩
      · rw [e1, e2, e3] at key
        simp only [Bool.true_and, Bool.or_true, Bool.true_or, Bool.false_or] at key
        rw [key]
        clear key
        go_enter Tryz.func96, Tryz.ntmps96
        go_wp2
        go_ret
        exact ⟨rfl, (by repeat (first | exact Below.refl _ _ | assumption | refine RowKit.Below.ext ?_ (by first | (simp; done) | (simp; omega) | omega) _ | refine Below.alloc ?_ (by first | (simp; done) | (simp; omega) | omega) _ | refine Below.drew ?_ | refine RowKit.Below.drawnN ?_ _ | refine Below.setCell ?_ (by first | (simp; done) | (simp; omega) | omega) _))⟩
    · rw [e1, e2] at key
      simp only [Bool.true_and, Bool.true_or] at key
      rw [key]
      clear key
      go_enter Tryz.func96, Tryz.ntmps96
      go_wp2
      go_ret
      exact ⟨rfl, (by repeat (first | exact Below.refl _ _ | assumption | refine RowKit.Below.ext ?_ (by first | (simp; done) | (simp; omega) | omega) _ | refine Below.alloc ?_ (by first | (simp; done) | (simp; omega) | omega) _ | refine Below.drew ?_ | refine RowKit.Below.drawnN ?_ _ | refine Below.setCell ?_ (by first | (simp; done) | (simp; omega) | omega) _))⟩

set_option maxHeartbeats 1000000 in
theorem nth_any (s : SlO) (wd n k : Int) (w : World) (hs : s.In w) (h1 : 1 ≤ n) (h2 : n ≤ k) (h3 : k ≤ 400) :
    Calls Tryz.prog 82 #[s.v, .int .i64 wd, .int .i64 n, .int .i64 k] w fun e w' => e = .returned (.bool (nthP s.l wd n k)) ∧ Below w.heap.size w w' := by
  have key : nthP s.l wd n k = (decide (s.l.length = 0) || s.l.any (ordP wd n k)) := rfl
  have hl := hs.2.1
  by_cases hc : s.l.length = 0
  · have d : decide (s.l.length = 0) = true := by simp [hc]
    rw [d, Bool.true_or] at key
    rw [key]
    clear key hs d
    obtain ⟨A, c, l⟩ := s
    dsimp only at hl hc ⊢
    show Calls Tryz.prog 82 #[.slice A l.length c, .int .i64 wd, .int .i64 n, .int .i64 k] w _
    rw [hc]
    clear hl hc
    go_enter Tryz.func82, Tryz.ntmps82
    go_wp2
    go_ret
    exact ⟨rfl, (by repeat (first | exact Below.refl _ _ | assumption | refine RowKit.Below.ext ?_ (by first | (simp; done) | (simp; omega) | omega) _ | refine Below.alloc ?_ (by first | (simp; done) | (simp; omega) | omega) _ | refine Below.drew ?_ | refine RowKit.Below.drawnN ?_ _ | refine Below.setCell ?_ (by first | (simp; done) | (simp; omega) | omega) _))⟩
  · have eg : ∀ args w, (callFunc 96 args).run Tryz.prog w = .ok (.enter 96 args) w := enters_of Tryz.func96 (by kernel_rfl) rfl
    have cC := fun (W : World) (hb : Below w.heap.size w W) (c1 : W.cell? ⟨w.heap.size, 0, none⟩ = some (.int .i64 wd)) (c2 : W.cell? ⟨w.heap.size + 1, 0, none⟩ = some (.int .i64 n)) (c3 : W.cell? ⟨w.heap.size + 1 + 1, 0, none⟩ = some (.int .i64 k)) =>
      contf_ord (ordP wd n k) 96 #[.pointer (some ⟨w.heap.size, 0, none⟩), .pointer (some ⟨w.heap.size + 1, 0, none⟩), .pointer (some ⟨w.heap.size + 1 + 1, 0, none⟩)] eg s W (hs.below hb)
        (fun W' x _ hb' => nth1_any wd n k x.1 x.2 _ _ _ W' h1 h2 h3 (cell_of_below hb' c1) (cell_of_below hb' c2) (cell_of_below hb' c3))
    have d : decide (s.l.length = 0) = false := by simp; intro h; rw [h] at hc; simp at hc
    rw [d, Bool.false_or] at key
    rw [key]
    have CC := Lib.hid cC
    clear cC key hs eg d
    obtain ⟨A, c, l⟩ := s
    dsimp only at CC hl hc ⊢
    show Calls Tryz.prog 82 #[.slice A l.length c, .int .i64 wd, .int .i64 n, .int .i64 k] w _
    have hcz : ((l.length : Int) == 0) = false := by simp; intro h; rw [h] at hc; simp at hc
    clear hc
    go_enter Tryz.func82, Tryz.ntmps82
    go_wp2_with fail
    refine Calls.mono (CC.out _ ?_ ?_ ?_ ?_) ?_
    · exact (by repeat (first | exact Below.refl _ _ | assumption | refine RowKit.Below.ext ?_ (by first | (simp; done) | (simp; omega) | omega) _ | refine Below.alloc ?_ (by first | (simp; done) | (simp; omega) | omega) _ | refine Below.drew ?_ | refine RowKit.Below.drawnN ?_ _ | refine Below.setCell ?_ (by first | (simp; done) | (simp; omega) | omega) _))
    · go_simp
    · go_simp
    · go_simp
    rintro e w1 ⟨rfl, hb1⟩; obtain ⟨x, rfl⟩ := hb1.toExt; clear hb1
    go_wp2
    go_ret
    exact ⟨rfl, (by repeat (first | exact Below.refl _ _ | assumption | refine RowKit.Below.ext ?_ (by first | (simp; done) | (simp; omega) | omega) _ | refine Below.alloc ?_ (by first | (simp; done) | (simp; omega) | omega) _ | refine Below.drew ?_ | refine RowKit.Below.drawnN ?_ _ | refine Below.setCell ?_ (by first | (simp; done) | (simp; omega) | omega) _))⟩
end Go.Proofs.YthilkphnjffnhaaGreat
/- The walks of slices.Index, slices.Contains, recurrence.counted. -/
namespace Go.Proofs.YthilkphnjffnhaaGreat
open Go.RowKit
set_option linter.unusedVariables false
set_option linter.unusedSimpArgs false

theorem bout {a b : Bool} (h : a = b) : Ending.returned (.bool a) = .returned (.bool b) := by rw [h]

set_option maxHeartbeats 1000000 in
theorem index_any (v : Int) (s : SlI) (w : World) (hs : s.In w) :
    Calls Tryz.prog 56 #[s.v, .int .i64 v] w fun e w' => e = .returned (.int .i64 (idxP (fun y => v == y) s.l)) ∧ w = w' := by
  obtain ⟨A, c, l⟩ := s
  obtain ⟨_, hl, hc⟩ := hs
  dsimp only at hl hc
  show Calls Tryz.prog 56 #[.slice A l.length c, .int .i64 v] w fun e w' => e = .returned (.int .i64 (idxP (fun y => v == y) l)) ∧ w = w'
  have HC := Lib.hid hc
  have Hit := Lib.hid (idxP_hit (fun y => v == y) l)
  have Non := Lib.hid (idxP_none (fun y => v == y) l)
  clear hc
  go_enter Tryz.func56, Tryz.ntmps56
  go_wp2
  go_loopg [5, 8] l.length (fun gg _ s8 wr => ∃ kk : Nat, kk ≤ l.length ∧ l.length - kk ≤ gg ∧ s8 = .int .i64 kk ∧ w = wr ∧ Hid (∀ j (hj : j < kk) (hl : j < l.length), (v == l[j]) = false))
  case atStart => exact ⟨0, Nat.zero_le _, by omega, rfl, rfl, fun j hj => absurd hj (Nat.not_lt_zero _)⟩
  case round =>
    obtain ⟨kk, hkk, hg, rfl, rfl, HA⟩ := hrel
    by_cases hlt : kk < l.length
    · have hltz : (kk : Int) < (l.length : Int) := by omega
      obtain ⟨b, off, rfl, hcc⟩ := HC.out (by intro h; rw [h] at hlt; simp at hlt)
      have hcell := hcc kk hlt
      clear hcc
      generalize hy : l[kk] = y at hcell
      have HY := Lib.hid hy
      clear hy
      cases hq : (v == y) with
      | true =>
        go_wp2
        go_ret
        exact ⟨ret_int (Hit.out kk hlt (by rw [HY.out]; exact hq) (fun j hj => HA.out j hj (by omega))).symm, rfl⟩
      | false =>
        go_wp2
        go_roundg (l.length - (kk + 1))
        case measure => omega
        case rel =>
          refine ⟨kk + 1, by omega, by omega, by go_num, rfl, (show Hid _ from fun j hj hl => ?_)⟩
          by_cases e : j = kk
          · subst e
            rw [HY.out]; exact hq
          · exact HA.out j (by omega) hl
    · have hltz : ¬ (kk : Int) < (l.length : Int) := by omega
      have HK := Lib.hid (show kk = l.length by omega)
      go_wp2
      go_ret
      exact ⟨ret_int (Non.out (fun j hj => HA.out j (by rw [HK.out]; exact hj) hj)).symm, rfl⟩

theorem contains_any (v : Int) (s : SlI) (w : World) (hs : s.In w) :
    Calls Tryz.prog 29 #[s.v, .int .i64 v] w fun e w' => e = .returned (.bool (s.l.any fun y => v == y)) ∧ w = w' := by
  have c := index_any v s w hs
  have ha := idxP_any (fun y => v == y) s.l
  have HA := Lib.hid ha
  have C := Lib.hid c
  clear hs c ha
  obtain ⟨A, c, l⟩ := s
  dsimp only at C HA
  show Calls Tryz.prog 29 #[.slice A l.length c, .int .i64 v] w fun e w' => e = .returned (.bool (l.any fun y => v == y)) ∧ w = w'
  rw [← HA.out]
  go_enter Tryz.func29, Tryz.ntmps29
  go_wp2_with fail
  refine C.out.mono ?_
  rintro e w1 ⟨rfl, rfl⟩
  go_wp2
  go_ret
  exact ⟨rfl, rfl⟩

def cntP (l : List Int) (n k : Int) : Bool := decide (l.length = 0) || (l.any fun y => n == y) || (l.any fun y => (n - k - 1) == y)
theorem counted_any (s : SlI) (n k : Int) (w : World) (hs : s.In w) (h1 : -1000000000000 ≤ n) (h2 : n ≤ 1000000000000) (h3 : -1000000000000 ≤ k) (h4 : k ≤ 1000000000000) :
    Calls Tryz.prog 34 #[s.v, .int .i64 n, .int .i64 k] w fun e w' => e = .returned (.bool (cntP s.l n k)) ∧ w = w' := by
  have key : cntP s.l n k = (decide (s.l.length = 0) || (s.l.any fun y => n == y) || (s.l.any fun y => (n - k - 1) == y)) := rfl
  have c1 := contains_any n s w hs
  have c2 := contains_any (n - k - 1) s w hs
  have hl := hs.2.1
  by_cases hc : s.l.length = 0
  · have d : decide (s.l.length = 0) = true := by simp [hc]
    rw [d, Bool.true_or, Bool.true_or] at key
    rw [key]
    clear key hs d c1 c2
    obtain ⟨A, c, l⟩ := s
    dsimp only at hl hc ⊢
    show Calls Tryz.prog 34 #[.slice A l.length c, .int .i64 n, .int .i64 k] w _
    rw [hc]
    clear hl hc
    go_enter Tryz.func34, Tryz.ntmps34
    go_wp2
    go_ret
    exact ⟨rfl, rfl⟩
  · have d : decide (s.l.length = 0) = false := by simp; intro h; rw [h] at hc; simp at hc
    rw [d, Bool.false_or] at key
    have C1 := Lib.hid c1
    have C2 := Lib.hid c2
    clear hs d c1 c2
    obtain ⟨A, c, l⟩ := s
    dsimp only at C1 C2 key hl hc ⊢
    show Calls Tryz.prog 34 #[.slice A l.length c, .int .i64 n, .int .i64 k] w _
    have hcz : ((l.length : Int) == 0) = false := by simp; intro h; rw [h] at hc; simp at hc
    clear hc
    generalize (l.any fun y => n == y) = q1 at C1 key
    generalize (l.any fun y => (n - k - 1) == y) = q2 at C2 key
    rw [key]
    clear key
    cases q1
    · go_enter Tryz.func34, Tryz.ntmps34
      go_wp2_with fail
      refine C1.out.mono ?_
      rintro e w1 ⟨rfl, rfl⟩
      go_wp2_with fail
      refine C2.out.mono ?_
      rintro e w1 ⟨rfl, rfl⟩
      go_wp2
      go_ret
      exact ⟨rfl, rfl⟩
    · go_enter Tryz.func34, Tryz.ntmps34
      go_wp2_with fail
      refine C1.out.mono ?_
      rintro e w1 ⟨rfl, rfl⟩
      go_wp2
      go_ret
      exact ⟨rfl, rfl⟩
end Go.Proofs.YthilkphnjffnhaaGreat
