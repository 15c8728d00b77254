/- PROVED IN THIS TEXT: civiltimetop.WholeCycle returns true for every input, and each argument reads behind the call as it read before. Conditions: none. (First: how the arguments are read; then the row.) -/
import Derived.Test.YthilkphnjffnhaaGreatJW
import Derived.ProofKit
import Derived.SizedLaws
import Derived.Lib.SmallJoins
import Derived.Deep.Slices
import Derived.OpenShut
import Derived.Test.YthilkphnjffnhaaGreatJX
import Derived.Test.YthilkphnjffnhaaGreatRows
import Derived.ChangeOld
import Derived.Below
namespace Go.Proofs.YthilkphnjffnhaaGreat
open Go.ChangeShapes Go.WideShapes Go.ChangeAt Go.RowKit
set_option linter.unusedVariables false
set_option linter.unusedSimpArgs false
theorem cellsT22 : Tryz.prog.cellsOf 22 = 1 := by kernel_rfl
theorem cellsT23 : Tryz.prog.cellsOf 23 = 1 := by kernel_rfl
theorem cellsT3 : Tryz.prog.cellsOf 3 = 1 := by kernel_rfl
theorem cellsT21 : Tryz.prog.cellsOf 21 = 1 := by kernel_rfl
theorem cellsT64 : Tryz.prog.cellsOf 64 = 2 := by kernel_rfl
theorem cellsT25 : Tryz.prog.cellsOf 25 = 14 := by kernel_rfl
theorem cellsT28 : Tryz.prog.cellsOf 28 = 2 := by kernel_rfl
theorem bytesT3 : Tryz.prog.bytesOf 3 = 8 := by kernel_rfl
theorem bytesT64 : Tryz.prog.bytesOf 64 = 16 := by kernel_rfl
theorem bytesT21 : Tryz.prog.bytesOf 21 = 4 := by kernel_rfl
set_option maxRecDepth 100000 in
theorem slI_open {H : Type} {enc : TypeId × Value → H} {W : World} {fuel : Nat} {v : Value} {y : DataW H × List MemPlace} (h : DataW.trod enc Tryz.prog W 0 (fun _ => true) true fuel 22 [v] = some y)
    (hz : ∀ n ∈ y.1.weights Tryz.prog 22, n ≤ reachBytes) : ∃ s : SlI, v = s.v ∧ s.In W := by
  rcases open_ints Tryz.underlying22 Tryz.underlying3 cellsT3 h with ⟨hcs, hx⟩ | ⟨a, len, cap, zs, hcs, _, hl, hm, hlen, hx, hcell, _⟩
  · simp only [List.cons.injEq, and_true] at hcs
    exact ⟨⟨none, 0, []⟩, hcs, Nat.le_refl _, by decide, fun h => absurd rfl h⟩
  · simp only [List.cons.injEq, and_true] at hcs
    simp only [if_true] at hlen
    have hw : cap * 8 ≤ 140737488351232 := by
      have := hz (cap * 8) (by
        rw [hx]
        simp only [DataW.weights, Tryz.underlying22, bytesT3, lits, List.length_map, List.length_take, List.length_drop, List.mem_cons]
        left
        rw [hlen, Nat.min_eq_left hl, show len + (cap - len) = cap by omega])
      simpa [reachBytes] using this
    have e : (zs.take len).length = len := by rw [List.length_take]; omega
    refine ⟨⟨some a, cap, zs.take len⟩, by rw [hcs, SlI.v, e], by rw [e]; exact hl, by dsimp only; omega, fun hn => ?_⟩
    have h0 : 0 < len := by
      rcases Nat.eq_zero_or_pos len with h | h
      · subst h; exact absurd (by simp) hn
      · exact h
    obtain ⟨b, off, spot⟩ := a
    have hspot : spot = none := by simpa [Addr.add] using World.cell?_spot (hcell 0 (by omega))
    subst hspot
    refine ⟨b, off, rfl, fun i hi => ?_⟩
    dsimp only at hi ⊢
    have := hcell i (by omega)
    rw [WideShapes.add_plain] at this
    rw [this, List.getElem_take, List.getD_eq_getElem?_getD, List.getElem?_eq_getElem (by omega)]
    rfl
set_option maxRecDepth 100000 in
theorem slO_open {H : Type} {enc : TypeId × Value → H} {W : World} {fuel : Nat} {v : Value} {y : DataW H × List MemPlace} (h : DataW.trod enc Tryz.prog W 0 (fun _ => true) true fuel 23 [v] = some y)
    (hz : ∀ n ∈ y.1.weights Tryz.prog 23, n ≤ reachBytes) : ∃ s : SlO, v = s.v ∧ s.In W := by
  rcases Deep.open_slice Tryz.underlying23 h with ⟨hcs, hx⟩ | ⟨a, len, cap, m, n, D, Pl, hcs, _, hl, hm, hmm, hx, hel⟩
  · simp only [List.cons.injEq, and_true] at hcs
    exact ⟨⟨none, 0, []⟩, hcs, Nat.le_refl _, by decide, fun h => absurd rfl h⟩
  · simp only [List.cons.injEq, and_true] at hcs
    simp only [if_true] at hmm
    rw [hmm] at hx hel
    clear hmm
    have hw : cap * 16 ≤ 140737488351232 := by
      have := hz (cap * 16) (by
        rw [hx]
        simp only [DataW.weights, Tryz.underlying23, bytesT64, List.length_map, List.length_range, List.mem_cons]
        left
        rw [show len + (cap - len) = cap by omega])
      simpa [reachBytes] using this
    rw [cellsT64] at hel
    obtain ⟨g, hg⟩ := Deep.choose_lt (α := Int × Int) (n := len) (p := fun i x => W.cell? (a.add (i * 2)) = some (.int .i64 x.1) ∧ W.cell? ((a.add (i * 2)).add 1) = some (.int .i64 x.2)) (fun i hi => by
      obtain ⟨cs, h1, h2⟩ := hel i (by omega)
      obtain ⟨y0, y1, k, hy, hlen, t0, t1⟩ := trod_struct2 Tryz.underlying64 h2
      rw [cellsT64] at hlen
      match cs, hlen with
      | [u0, u1], _ =>
        dsimp only at t0 t1
        rw [cellsT3] at t0 t1
        obtain ⟨n0, e0, _, _⟩ := DataW.trod_int Tryz.underlying3 t0
        obtain ⟨n1, e1, _, _⟩ := DataW.trod_int Tryz.underlying3 t1
        simp only [List.drop_zero, List.take_succ_cons, List.take_zero, List.cons.injEq, and_true] at e0
        simp only [List.drop_succ_cons, List.drop_zero, List.take_succ_cons, List.take_zero, List.cons.injEq, and_true] at e1
        subst e0 e1
        obtain ⟨_, _, h3⟩ := World.cells?_some h1
        have q0 := h3 0 (by omega)
        have q1 := h3 1 (by omega)
        exact ⟨(n0, n1), by simpa [Addr.add] using q0, by simpa [Addr.add] using q1⟩)
    refine ⟨⟨some a, cap, (List.range len).map g⟩, by rw [hcs, SlO.v]; simp, by simpa using hl, by simp; omega, fun hn => ?_⟩
    have h0 : 0 < len := by
      rcases Nat.eq_zero_or_pos len with h | h
      · subst h; exact absurd rfl hn
      · exact h
    obtain ⟨b, off, spot⟩ := a
    have hspot : spot = none := by simpa [Addr.add] using World.cell?_spot (hg 0 h0).1
    subst hspot
    refine ⟨b, off, rfl, fun i hi => ?_⟩
    simp only [List.length_map, List.length_range] at hi
    have := hg i hi
    rw [WideShapes.add_plain, WideShapes.add_plain] at this
    simpa using this
set_option maxRecDepth 100000 in
theorem sl4_open {H : Type} {enc : TypeId × Value → H} {W : World} {fuel : Nat} {v : Value} {y : DataW H × List MemPlace} (h : DataW.trod enc Tryz.prog W 0 (fun _ => true) true fuel 26 [v] = some y) : ∃ s : Sl4, v = s.v ∧ s.In W := by
  rcases open_ints Tryz.underlying26 Tryz.underlying21 cellsT21 h with ⟨hcs, hx⟩ | ⟨a, len, cap, zs, hcs, _, hl, hm, hlen, hx, hcell, hwz⟩
  · simp only [List.cons.injEq, and_true] at hcs
    exact ⟨⟨none, 0, []⟩, hcs, by decide, fun x hx => (by cases hx), fun h => absurd rfl h⟩
  · simp only [List.cons.injEq, and_true] at hcs
    simp only [if_true] at hlen
    have e : (zs.take len).length = len := by rw [List.length_take]; omega
    refine ⟨⟨some a, cap, zs.take len⟩, by rw [hcs, Sl4.v, e], by unfold maxLen at hm; dsimp only; omega, fun x hx => ?_, fun hn => ?_⟩
    · have := hwz x (List.mem_of_mem_take hx)
      exact bounds_i32 this
    have h0 : 0 < len := by
      rcases Nat.eq_zero_or_pos len with h | h
      · subst h; exact absurd (by simp) hn
      · exact h
    obtain ⟨b, off, spot⟩ := a
    have hspot : spot = none := by simpa [Addr.add] using World.cell?_spot (hcell 0 (by omega))
    subst hspot
    refine ⟨b, off, rfl, fun i hi => ?_⟩
    dsimp only at hi ⊢
    have := hcell i (by omega)
    rw [WideShapes.add_plain] at this
    rw [this, List.getElem_take, List.getD_eq_getElem?_getD, List.getElem?_eq_getElem (by omega)]
    rfl
theorem array14 {α : Type} {cs : Array α} (h : cs.size = 14) : ∃ c0 c1 c2 c3 c4 c5 c6 c7 c8 c9 c10 c11 c12 c13, cs = #[c0, c1, c2, c3, c4, c5, c6, c7, c8, c9, c10, c11, c12, c13] := by
  obtain ⟨l⟩ := cs
  match l, h with
  | [c0, c1, c2, c3, c4, c5, c6, c7, c8, c9, c10, c11, c12, c13], _ => exact ⟨c0, c1, c2, c3, c4, c5, c6, c7, c8, c9, c10, c11, c12, c13, rfl⟩
theorem field_of {H : Type} {enc : TypeId × Value → H} {W : World} {t : TypeId} {fs : Array Field} {fuel : Nat} {cs : List Value} {x : DataW H × List MemPlace} (ht : Tryz.prog.underlying t = some (.struct fs))
    (h : DataW.trod enc Tryz.prog W 0 (fun _ => true) true fuel t cs = some x) (hz : ∀ n ∈ x.1.weights Tryz.prog t, n ≤ reachBytes) :
    ∃ n, ∀ (i : Nat) (t' : TypeId) (off : Nat), (fs[i]?).map (fun f => (f.type, f.offset)) = some (t', off) → ∃ y, DataW.trod enc Tryz.prog W 0 (fun _ => true) true n t' ((cs.drop off).take (Tryz.prog.cellsOf t')) = some y ∧ ∀ m ∈ y.1.weights Tryz.prog t', m ≤ reachBytes := by
  obtain ⟨xs, n, _, hx, hl, hlen, hfs⟩ := DataW.trod_struct ht h
  refine ⟨n, fun i t' off hif => ?_⟩
  obtain ⟨f, hi, hfe⟩ := Option.map_eq_some_iff.1 hif
  obtain ⟨rfl, rfl⟩ := Prod.mk.inj hfe
  have hlt : i < xs.length := by
    rw [hlen]
    rcases Nat.lt_or_ge i fs.size with h | h
    · exact h
    · rw [Array.getElem?_eq_none h] at hi; cases hi
  have hy := hfs i f hi
  rw [List.getElem?_eq_getElem hlt] at hy
  refine ⟨xs[i], hy, fun m hm => hz m ?_⟩
  rw [hx]
  simp only [DataW.weights, ht]
  refine DataW.weights_mem_each (j := i) (t := f.type) (d := xs[i].1) ?_ ?_ m hm
  · rw [List.getElem?_map, Array.getElem?_toList, hi]; rfl
  · rw [List.getElem?_map, List.getElem?_eq_getElem hlt]; rfl
set_option maxRecDepth 100000 in
theorem rc_open {H : Type} {enc : TypeId × Value → H} {W : World} {b0 : Nat} {v : Value} {d : DataW H} {p : List MemPlace} (hv : Value.okWide Tryz.prog W .any b0 25 v) (h : DataW.Trod enc Tryz.prog W 0 (fun _ => true) true 25 v d p)
    (hz : ∀ n ∈ d.weights Tryz.prog 25, n ≤ reachBytes) : ∃ r : Rc, v = r.val ∧ r.In W := by
  obtain ⟨cs, rfl, hsz⟩ := okWide_struct Tryz.underlying25 hv
  obtain ⟨c0, c1, c2, c3, c4, c5, c6, c7, c8, c9, c10, c11, c12, c13, rfl⟩ := array14 (hsz.trans cellsT25)
  obtain ⟨fuel, hf⟩ := h
  obtain ⟨n, F⟩ := field_of Tryz.underlying25 hf hz
  clear hf hz hv hsz
  have I : ∀ (c : Value) (y : DataW H × List MemPlace), DataW.trod enc Tryz.prog W 0 (fun _ => true) true n 3 [c] = some y → ∃ k, c = .int .i64 k := fun c y hy => by
    obtain ⟨k, e, _, _⟩ := DataW.trod_int Tryz.underlying3 hy
    simp only [List.cons.injEq, and_true] at e
    exact ⟨k, e⟩
  obtain ⟨y0, h0, _⟩ := F 0 3 0 rfl
  obtain ⟨y1, h1, _⟩ := F 1 3 1 rfl
  obtain ⟨y2, h2, _⟩ := F 2 3 2 rfl
  obtain ⟨y3, h3, _⟩ := F 3 3 3 rfl
  obtain ⟨y4, h4, z4⟩ := F 4 22 4 rfl
  obtain ⟨y5, h5, z5⟩ := F 5 22 5 rfl
  obtain ⟨y6, h6, z6⟩ := F 6 22 6 rfl
  obtain ⟨y7, h7, z7⟩ := F 7 22 7 rfl
  obtain ⟨y8, h8, z8⟩ := F 8 23 8 rfl
  obtain ⟨y9, h9, z9⟩ := F 9 22 9 rfl
  obtain ⟨y10, h10, z10⟩ := F 10 22 10 rfl
  obtain ⟨y11, h11, z11⟩ := F 11 22 11 rfl
  obtain ⟨y12, h12, z12⟩ := F 12 22 12 rfl
  obtain ⟨y13, h13, _⟩ := F 13 3 13 rfl
  clear F
  rw [cellsT3] at h0 h1 h2 h3 h13
  rw [cellsT22] at h4 h5 h6 h7 h9 h10 h11 h12
  rw [cellsT23] at h8
  obtain ⟨k0, rfl⟩ := I c0 _ h0
  obtain ⟨k1, rfl⟩ := I c1 _ h1
  obtain ⟨k2, rfl⟩ := I c2 _ h2
  obtain ⟨k3, rfl⟩ := I c3 _ h3
  obtain ⟨k13, rfl⟩ := I c13 _ h13
  obtain ⟨s4, rfl, i4⟩ := slI_open (v := c4) h4 z4
  obtain ⟨s5, rfl, i5⟩ := slI_open (v := c5) h5 z5
  obtain ⟨s6, rfl, i6⟩ := slI_open (v := c6) h6 z6
  obtain ⟨s7, rfl, i7⟩ := slI_open (v := c7) h7 z7
  obtain ⟨s8, rfl, i8⟩ := slO_open (v := c8) h8 z8
  obtain ⟨s9, rfl, i9⟩ := slI_open (v := c9) h9 z9
  obtain ⟨s10, rfl, i10⟩ := slI_open (v := c10) h10 z10
  obtain ⟨s11, rfl, i11⟩ := slI_open (v := c11) h11 z11
  obtain ⟨s12, rfl, i12⟩ := slI_open (v := c12) h12 z12
  exact ⟨⟨k0, k1, k2, k3, s4, s5, s6, s7, s8, s9, s10, s11, s12, k13⟩, rfl, ⟨i4, i5, i6, i7, i8, i9, i10, i11, i12⟩⟩
set_option maxRecDepth 100000 in
theorem wr_open {H : Type} {enc : TypeId × Value → H} {W : World} {b0 : Nat} {v : Value} {d : DataW H} {p : List MemPlace} (hv : Value.okWide Tryz.prog W .any b0 28 v) (h : DataW.Trod enc Tryz.prog W 0 (fun _ => true) true 28 v d p) :
    ∃ f mn : Int, v = .agg #[.int .i64 f, .int .i64 mn] := by
  obtain ⟨c0, c1, y0, y1, n, rfl, _, _, h0, h1⟩ := Joins.open_agg2 Tryz.underlying28 (by kernel_rfl) cellsT28 hv h
  obtain ⟨a, e0, _, _⟩ := DataW.trod_int Tryz.underlying3 h0
  obtain ⟨b, e1, _, _⟩ := DataW.trod_int Tryz.underlying3 h1
  simp only [List.cons.injEq, and_true] at e0 e1
  exact ⟨a, b, by rw [e0, e1]⟩
end Go.Proofs.YthilkphnjffnhaaGreat
/- WholeCycle returns true for every input, and each argument reads behind the call as it read before: no condition. -/
namespace Go.Proofs.YthilkphnjffnhaaGreat
open Go.ChangeShapes Go.WideShapes Go.ChangeAt Go.RowKit
set_option linter.unusedVariables false
set_option linter.unusedSimpArgs false
theorem own : ownKnob Tryz.prog.godebug = none := by kernel_rfl
theorem laidOut : laidOutB Tryz.prog = true := by kernel_rfl
set_option maxRecDepth 100000 in
theorem lifted (os : Os) (started : os.Started) (H : Type) (enc : TypeId × Value → H) :
    ReturnsInHanded {} Tryz.checked os 3 .any (Rows.wholeCycleSpec.pre6 enc Tryz.prog Tryz.f3 Rows.wholeCycleRow.domain false) (Rows.wholeCycleSpec.post enc Tryz.prog Tryz.f3 false true false false) := by
  refine returnsInHanded_of_change_sized (C := Tryz.checked) own started (by kernel_rfl) Tryz.func3
    (ChangeSpec.witness6 (enc := enc) (C := Tryz.checked) false ⟨#[], #[.agg #[.int .i64 0, .int .i64 0, .int .i64 0, .int .i64 0, .slice none 0 0, .slice none 0 0, .slice none 0 0, .slice none 0 0, .slice none 0 0, .slice none 0 0, .slice none 0 0, .slice none 0 0, .slice none 0 0, .int .i64 0], .int .i64 0, .slice none 0 0, .int .i64 0, .agg #[.int .i64 0, .int .i64 0], .int .i16 0], []⟩ 8 (by kernel_rfl) (by kernel_rfl) (by kernel_rfl) (by kernel_rfl)) ?_
  intro W base args ds gs before hval0 hW hcnd hsz0 _
  have hval : ∀ (j : Nat) t v, Tryz.f3.params[j]? = some t → args[j]? = some v → Value.okWide Tryz.prog W .any base t v := hval0
  have hsz : (DataW.weightsEach Tryz.prog (Tryz.f3.params.toList ++ Rows.wholeCycleSpec.plain.varTypes Tryz.prog) (ds ++ gs)).all (· ≤ reachBytes) = true := hsz0
  have hW' := hW
  obtain ⟨p, q, hA0, hV, rfl, hfz, hnd⟩ := hW
  have hA : DataW.TrodAll enc Tryz.prog W 0 (fun _ => true) true Tryz.f3.params.toList args.toList ds p := hA0
  rw [Tryz.params3] at hA hval hsz
  obtain ⟨v0, vs0, d0, ds0, p0, q0, hargs, rfl, rfl, h0, r0⟩ := trodAll_cons hA
  obtain ⟨v1, vs1, d1, ds1, p1, q1, rfl, rfl, rfl, h1, r1⟩ := trodAll_cons r0
  obtain ⟨v2, vs2, d2, ds2, p2, q2, rfl, rfl, rfl, h2, r2⟩ := trodAll_cons r1
  obtain ⟨v3, vs3, d3, ds3, p3, q3, rfl, rfl, rfl, h3, r3⟩ := trodAll_cons r2
  obtain ⟨v4, vs4, d4, ds4, p4, q4, rfl, rfl, rfl, h4, r4⟩ := trodAll_cons r3
  obtain ⟨v5, vs5, d5, ds5, p5, q5, rfl, rfl, rfl, h5, r5⟩ := trodAll_cons r4
  obtain ⟨rfl, rfl, rfl⟩ := trodAll_nil r5
  obtain rfl : args = #[v0, v1, v2, v3, v4, v5] := by cases args; simp_all
  obtain ⟨rfl, rfl⟩ := trodVars_none hV
  have k0 := h0
  have k2 := h2
  have k4 := h4
  have lt0 : ∀ x ∈ p0, x.block < W.heap.size := by obtain ⟨m, hm⟩ := k0; exact DataW.trod_lt m _ _ _ hm
  have lt2 : ∀ x ∈ p2, x.block < W.heap.size := by obtain ⟨m, hm⟩ := k2; exact DataW.trod_lt m _ _ _ hm
  have lt4 : ∀ x ∈ p4, x.block < W.heap.size := by obtain ⟨m, hm⟩ := k4; exact DataW.trod_lt m _ _ _ hm
  have hz0 : ∀ n ∈ d0.weights Tryz.prog 25, n ≤ reachBytes := fun n hn => by
    have := List.all_eq_true.1 hsz n (DataW.weights_mem_each (j := 0) (t := 25) (d := d0) rfl rfl n hn)
    simpa using this
  obtain ⟨r, rfl, w0⟩ := rc_open (hval 0 25 v0 rfl rfl) h0 hz0
  obtain ⟨a1, rfl, rfl, rfl, w1⟩ := open_int Tryz.underlying3 (hval 1 3 v1 rfl rfl) h1
  obtain ⟨s, rfl, w2⟩ : ∃ s : Sl4, v2 = s.v ∧ s.In W := by
    obtain ⟨x, l, c, rfl⟩ := okWide_slice Tryz.underlying26 (hval 2 26 v2 rfl rfl)
    obtain ⟨fuel, hf⟩ := h2
    exact sl4_open (v := .slice x l c) hf
  obtain ⟨a3, rfl, rfl, rfl, w3⟩ := open_int Tryz.underlying3 (hval 3 3 v3 rfl rfl) h3
  obtain ⟨f, mn, rfl⟩ := wr_open (hval 4 28 v4 rfl rfl) h4
  obtain ⟨a5, rfl, rfl, rfl, w5⟩ := open_int Tryz.underlying29 (hval 5 29 v5 rfl rfl) h5
  have hb5 : -32768 ≤ a5 ∧ a5 ≤ 32767 := by
    exact bounds_i16 w5
  clear hA0 hval0 hsz0
  refine (whole_yes r a1 s a3 f mn a5 W w0 w2 hb5.1 hb5.2).mono fun e W' ⟨he, bel⟩ => ?_
  subst he
  exact ⟨_, rfl, _, _, _, [], _, [], hW', trodAll_mk1 (shut_bool Tryz.underlying4 _), (trodAll_cons_mk (Below.trod laidOut (by kernel_rfl) (of_decide_eq_true (by kernel_rfl)) k0 bel lt0) (trodAll_cons_mk (shut_int Tryz.underlying3 w1) (trodAll_cons_mk (Below.trod laidOut (by kernel_rfl) (of_decide_eq_true (by kernel_rfl)) k2 bel lt2) (trodAll_cons_mk (shut_int Tryz.underlying3 w3) (trodAll_cons_mk (Below.trod laidOut (by kernel_rfl) (of_decide_eq_true (by kernel_rfl)) k4 bel lt4) (trodAll_cons_mk (shut_int Tryz.underlying29 w5) trodAll_mk0)))))), rfl, bel.frame _, fun h => by cases h⟩
theorem over : Rows.wholeCycleRow.holds Tryz.pinned (OpenSpec.ofChange Rows.wholeCycleSpec) :=
  OpenClaim.holds_of_wide 3 Tryz.f3 rfl rfl rfl rfl rfl rfl rfl ⟨rfl, rfl, rfl, rfl, rfl⟩ rfl rfl rfl rfl rfl (by kernel_rfl) Tryz.func3 (by kernel_rfl)
    (of_decide_eq_true (by kernel_rfl)) (by unfold Func.isWrapper; first | (rw [if_pos (by decide +kernel)]; kernel_rfl) | (rw [if_neg (by decide +kernel)]; exact ⟨rfl, rfl⟩))
    (fun os started H enc _ => lifted os started H enc)
/-- THE STATEMENT -/
theorem wholeCycle_holds : Rows.WholeCycleSaid := over
#print axioms wholeCycle_holds
end Go.Proofs.YthilkphnjffnhaaGreat
