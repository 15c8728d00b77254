/- The library's contracts of slices.Clone, Sort, Compact, Equal and bits.Mul64 at this program, laid in plain words by the kit's lay-plain.mjs; its remarks are struck. -/
import Derived.Shelf.Sort.Plain
import Derived.Shelf.Bits.Mul64
import Derived.Shelf.Slices.Equal
import Derived.Ground.Names2Prog
import Derived.Shelf.Slices.Clone
import Derived.Shelf.Slices.CompactI
import Derived.Shelf.Slices.In.SortNone
import Derived.Shelf.Slices.Empties2
import Derived.Shelf.Slices.Turned
import Derived.Test.YthilkphnjffnhaaGreatProg
import Derived.Test.YthilkphnjffnhaaGreatJC
import Derived.Sort.OwnSortedInts
namespace Go.Proofs
open Go.Shelf
def Tryz.lays189_ren : Go.Shelf.Ren := ⟨fun | 189 => 73 | 125 => 94 | 257 => 93 | 128 => 109 | 129 => 110 | 294 => 100 | 295 => 101 | 296 => 102 | 297 => 103 | 298 => 104 | 299 => 105 | 216 => 106 | 300 => 107 | 301 => 108 | 328 => 115 | 329 => 116 | 330 => 117 | 331 => 118 | 332 => 119 | 215 => 120 | 343 => 122 | n => n, fun | 28 => 22 | 3 => 3 | 46 => 115 | 0 => 0 | 51 => 127 | 53 => 129 | 4 => 4 | 183 => 122 | 182 => 121 | 131 => 109 | 5 => 5 | 9 => 9 | 218 => 133 | 222 => 137 | 228 => 141 | 229 => 72 | n => n, fun | n => n⟩
theorem Tryz.lays189 : Go.Proofs.Lays.n189 Tryz.prog Tryz.lays189_ren := {
  mixed := by kernel_rfl
  f125 := Tryz.func94.trans (congrArg some (by kernel_rfl))
  f128 := Tryz.func109.trans (congrArg some (by kernel_rfl))
  f129 := Tryz.func110.trans (congrArg some (by kernel_rfl))
  f189 := Tryz.func73.trans (congrArg some (by kernel_rfl))
  f215 := Tryz.func120.trans (congrArg some (by kernel_rfl))
  f216 := Tryz.func106.trans (congrArg some (by kernel_rfl))
  f257 := Tryz.func93.trans (congrArg some (by kernel_rfl))
  f294 := Tryz.func100.trans (congrArg some (by kernel_rfl))
  f295 := Tryz.func101.trans (congrArg some (by kernel_rfl))
  f296 := Tryz.func102.trans (congrArg some (by kernel_rfl))
  f297 := Tryz.func103.trans (congrArg some (by kernel_rfl))
  f298 := Tryz.func104.trans (congrArg some (by kernel_rfl))
  f299 := Tryz.func105.trans (congrArg some (by kernel_rfl))
  f300 := Tryz.func107.trans (congrArg some (by kernel_rfl))
  f301 := Tryz.func108.trans (congrArg some (by kernel_rfl))
  f328 := Tryz.func115.trans (congrArg some (by kernel_rfl))
  f329 := Tryz.func116.trans (congrArg some (by kernel_rfl))
  f330 := Tryz.func117.trans (congrArg some (by kernel_rfl))
  f331 := Tryz.func118.trans (congrArg some (by kernel_rfl))
  f332 := Tryz.func119.trans (congrArg some (by kernel_rfl))
  f343 := Tryz.func122.trans (congrArg some (by kernel_rfl))
  t0 := Tryz.underlying0
  a0 := Tryz.isAgg0
  z0 := Tryz.sizeOf0
  v0 := Tryz.zeroValue0
  t3 := Tryz.underlying3
  a3 := Tryz.isAgg3
  z3 := Tryz.sizeOf3
  v3 := Tryz.zeroValue3
  t4 := Tryz.underlying4
  a4 := Tryz.isAgg4
  z4 := Tryz.sizeOf4
  v4 := Tryz.zeroValue4
  t5 := Tryz.underlying5
  a5 := Tryz.isAgg5
  z5 := Tryz.sizeOf5
  v5 := Tryz.zeroValue5
  t9 := Tryz.underlying9
  a9 := Tryz.isAgg9
  z9 := Tryz.sizeOf9
  v9 := Tryz.zeroValue9
  t28 := Tryz.underlying22
  a28 := Tryz.isAgg22
  z28 := Tryz.sizeOf22
  v28 := Tryz.zeroValue22
  t46 := Tryz.underlying115
  a46 := Tryz.isAgg115
  z46 := Tryz.sizeOf115
  v46 := Tryz.zeroValue115
  t51 := Tryz.underlying127
  a51 := Tryz.isAgg127
  z51 := Tryz.sizeOf127
  v51 := Tryz.zeroValue127
  t53 := Tryz.underlying129
  a53 := Tryz.isAgg129
  z53 := Tryz.sizeOf129
  v53 := Tryz.zeroValue129
  t131 := Tryz.underlying109
  a131 := Tryz.isAgg109
  z131 := Tryz.sizeOf109
  v131 := Tryz.zeroValue109
  t182 := Tryz.underlying121
  a182 := Tryz.isAgg121
  z182 := Tryz.sizeOf121
  v182 := Tryz.zeroValue121
  t183 := Tryz.underlying122
  a183 := Tryz.isAgg122
  z183 := Tryz.sizeOf122
  v183 := Tryz.zeroValue122
  t218 := Tryz.underlying133
  a218 := Tryz.isAgg133
  z218 := Tryz.sizeOf133
  v218 := Tryz.zeroValue133
  t222 := Tryz.underlying137
  a222 := Tryz.isAgg137
  z222 := Tryz.sizeOf137
  v222 := Tryz.zeroValue137
  t228 := Tryz.underlying141
  a228 := Tryz.isAgg141
  z228 := Tryz.sizeOf141
  v228 := Tryz.zeroValue141
  t229 := Tryz.underlying72
  a229 := Tryz.isAgg72
  z229 := Tryz.sizeOf72
  v229 := Tryz.zeroValue72 }
open Go.Sort Go.RowKit in
theorem Tryz.slices_Sort_int (blk off cap : Nat) (zs : List Int) (w : World) (hH : Holds (Value.int .i64) w blk off zs.toArray) (hblk : blk < w.heap.size) (hsz : zs.length < 4611686018427387904) :
    Calls Tryz.prog 73 #[.slice (some ⟨blk, off, none⟩) zs.length cap] w fun e w' =>
      e = .returned (.tuple #[]) ∧ ∃ n os, w' = grow (putRow (Value.int .i64) (Sort.ahead w n) blk off (zs.mergeSort fun x y => decide (x ≤ y)).toArray) os := Any.slices_Sort_int Tryz.lays189 blk off cap zs w hH hblk hsz
def Tryz.lays264_ren : Go.Shelf.Ren := ⟨fun | 264 => 121 | n => n, fun | 53 => 129 | 46 => 115 | n => n, fun | n => n⟩
theorem Tryz.lays264 : Go.Proofs.Lays.n264 Tryz.prog Tryz.lays264_ren := {
  mixed := by kernel_rfl
  f264 := Tryz.func121.trans (congrArg some (by kernel_rfl))
  t46 := Tryz.underlying115
  a46 := Tryz.isAgg115
  z46 := Tryz.sizeOf115
  v46 := Tryz.zeroValue115
  t53 := Tryz.underlying129
  a53 := Tryz.isAgg129
  z53 := Tryz.sizeOf129
  v53 := Tryz.zeroValue129 }
open Go.RowKit Go.Lib in
theorem Tryz.bits_Mul64 (x y : Nat) (hx : x < 18446744073709551616) (hy : y < 18446744073709551616) (w : World) :
    Calls Tryz.prog 121 #[.int .u64 x, .int .u64 y] w fun e w' => e = .returned (.tuple #[.int .u64 ((x * y / 18446744073709551616 : Nat) : Int), .int .u64 ((x * y % 18446744073709551616 : Nat) : Int)]) ∧ w' = w := Any.bits_Mul64 Tryz.lays264 x y hx hy w
def Tryz.lays111_ren : Go.Shelf.Ren := ⟨fun | 111 => 5 | n => n, fun | 28 => 22 | 3 => 3 | 4 => 4 | 0 => 0 | n => n, fun | n => n⟩
theorem Tryz.lays111 : Go.Proofs.Lays.n111 Tryz.prog Tryz.lays111_ren := {
  mixed := by kernel_rfl
  f111 := Tryz.func5.trans (congrArg some (by kernel_rfl))
  t0 := Tryz.underlying0
  a0 := Tryz.isAgg0
  z0 := Tryz.sizeOf0
  v0 := Tryz.zeroValue0
  t3 := Tryz.underlying3
  a3 := Tryz.isAgg3
  z3 := Tryz.sizeOf3
  v3 := Tryz.zeroValue3
  t4 := Tryz.underlying4
  a4 := Tryz.isAgg4
  z4 := Tryz.sizeOf4
  v4 := Tryz.zeroValue4
  t28 := Tryz.underlying22
  a28 := Tryz.isAgg22
  z28 := Tryz.sizeOf22
  v28 := Tryz.zeroValue22 }
open Go.RowKit Go.Lib in
theorem Tryz.slices_Equal_int (b1 o1 n c b2 o2 m d : Nat) (xs ys : List Int) (w : World) (hx : n ≤ xs.length) (hy : m ≤ ys.length) (hbig : n ≤ 9223372036854775807) (hbig2 : m ≤ 9223372036854775807) (hc1 : ∀ j, j < xs.length → w.cell? ⟨b1, o1 + j, none⟩ = some (.int .i64 (xs.getD j 0))) (hc2 : ∀ j, j < ys.length → w.cell? ⟨b2, o2 + j, none⟩ = some (.int .i64 (ys.getD j 0))) :
    Calls Tryz.prog 5 #[.slice (some ⟨b1, o1, none⟩) n c, .slice (some ⟨b2, o2, none⟩) m d] w fun e w' => e = .returned (.bool (xs.take n == ys.take m)) ∧ ∃ q, w' = w.drewN q := Any.slices_Equal_int Tryz.lays111 b1 o1 n c b2 o2 m d xs ys w hx hy hbig hbig2 hc1 hc2
open Go.RowKit Go.Lib in
theorem Tryz.slices_Equal_int_empty (a1 a2 : Option Addr) (c m d : Nat) (w : World) (hbig2 : m ≤ 9223372036854775807) :
    Calls Tryz.prog 5 #[.slice a1 0 c, .slice a2 m d] w fun e w' => e = .returned (.bool (decide (m = 0))) ∧ w' = w := Any.slices_Equal_int_empty Tryz.lays111 a1 a2 c m d w hbig2
def Tryz.laysNm215_ren : Go.Shelf.Ren := ⟨fun | 15 => 72 | n => n, fun | 22 => 22 | 3 => 3 | 4 => 4 | n => n, fun | n => n⟩
theorem Tryz.laysNm215 : Go.Proofs.Lays2.n15 Tryz.prog Tryz.laysNm215_ren := {
  mixed := by kernel_rfl
  f15 := Tryz.func72.trans (congrArg some (by kernel_rfl))
  t3 := Tryz.underlying3
  a3 := Tryz.isAgg3
  z3 := Tryz.sizeOf3
  v3 := Tryz.zeroValue3
  t4 := Tryz.underlying4
  a4 := Tryz.isAgg4
  z4 := Tryz.sizeOf4
  v4 := Tryz.zeroValue4
  t22 := Tryz.underlying22
  a22 := Tryz.isAgg22
  z22 := Tryz.sizeOf22
  v22 := Tryz.zeroValue22
  i3 := by kernel_rfl }
open Go.RowKit Go.Lib in
theorem Tryz.slices_Clone_int (b off n c : Nat) (zs : List Int) (w : World) (hz : n ≤ zs.length) (hbig : n * 8 ≤ 140737488355328) (hc : ∀ j, j < zs.length → w.cell? ⟨b, off + j, none⟩ = some (.int .i64 (zs.getD j 0))) :
    Calls Tryz.prog 72 #[.slice (some ⟨b, off, none⟩) n c] w fun e w' => ∃ v', e = .returned v' ∧ w'.ownsRow w.heap.size 3 1 v' n ((zs.take n).map (Value.int .i64)) ∧ v' ≠ .slice none 0 0 ∧ Below w.heap.size w w' := Any.slices_Clone_int Tryz.laysNm215 b off n c zs w hz hbig hc
open Go.RowKit Go.Lib in
theorem Tryz.slices_Clone_int_nil (n c : Nat) (w : World) :
    Calls Tryz.prog 72 #[.slice none n c] w fun e w' => e = .returned (.slice none 0 0) ∧ w' = w := Any.slices_Clone_int_nil Tryz.laysNm215 n c w
open Go.RowKit Go.Lib in
theorem Tryz.slices_Clone_int_zero (a : Addr) (c : Nat) (w : World) :
    Calls Tryz.prog 72 #[.slice (some a) 0 c] w fun e w' => ∃ v', e = .returned v' ∧ w'.ownsRow w.heap.size 3 1 v' 0 [] ∧ v' ≠ .slice none 0 0 ∧ Below w.heap.size w w' := Any.slices_Clone_int_zero Tryz.laysNm215 a c w
def Tryz.laysNm220_ren : Go.Shelf.Ren := ⟨fun | 20 => 74 | n => n, fun | 22 => 22 | 3 => 3 | 4 => 4 | 0 => 0 | n => n, fun | n => n⟩
theorem Tryz.laysNm220 : Go.Proofs.Lays2.n20 Tryz.prog Tryz.laysNm220_ren := {
  mixed := by kernel_rfl
  f20 := Tryz.func74.trans (congrArg some (by kernel_rfl))
  t0 := Tryz.underlying0
  a0 := Tryz.isAgg0
  z0 := Tryz.sizeOf0
  v0 := Tryz.zeroValue0
  t3 := Tryz.underlying3
  a3 := Tryz.isAgg3
  z3 := Tryz.sizeOf3
  v3 := Tryz.zeroValue3
  t4 := Tryz.underlying4
  a4 := Tryz.isAgg4
  z4 := Tryz.sizeOf4
  v4 := Tryz.zeroValue4
  t22 := Tryz.underlying22
  a22 := Tryz.isAgg22
  z22 := Tryz.sizeOf22
  v22 := Tryz.zeroValue22
  i3 := by kernel_rfl }
open Go.RowKit Go.Lib Go.Sort in
theorem Tryz.slices_Compact_int (blk off cap : Nat) (zs : List Int) (w : World) (hH : Holds (Value.int .i64) w blk off zs.toArray) (hsz : zs.length ≤ 9223372036854775807) (hcap : zs.length ≤ cap) :
    Calls Tryz.prog 74 #[.slice (some ⟨blk, off, none⟩) zs.length cap] w fun e w' => e = .returned (.slice (some ⟨blk, off, none⟩) (Lib.compact zs).length cap) ∧ ∃ q, w' = putRow (Value.int .i64) (Sort.ahead w q) blk off (Lib.compact zs ++ List.replicate (zs.length - (Lib.compact zs).length) 0).toArray := Any.slices_Compact_int Tryz.laysNm220 blk off cap zs w hH hsz hcap
open Go.RowKit Go.Lib Go.Sort in
theorem Tryz.slices_Compact_int_empty (a : Option Addr) (cap : Nat) (w : World) :
    Calls Tryz.prog 74 #[.slice a 0 cap] w fun e w' => e = .returned (.slice a 0 cap) ∧ w' = w := Any.slices_Compact_int_empty Tryz.laysNm220 a cap w
open Go.RowKit Go.Sort in
theorem Tryz.slices_Sort_int_none (p : Option Addr) (cap : Nat) (w : World) :
    Calls Tryz.prog 73 #[.slice p 0 cap] w fun e w' => e = .returned (.tuple #[]) ∧ w' = w := Any.slices_Sort_int_none Tryz.lays189 p cap w
open Go.RowKit Go.Lib in
theorem Tryz.slices_Equal_int_lens (a1 a2 : Option Addr) (n c m d : Nat) (w : World) (hnm : n ≠ m) :
    Calls Tryz.prog 5 #[.slice a1 n c, .slice a2 m d] w fun e w' => e = .returned (.bool false) ∧ w' = w := Any.slices_Equal_int_lens Tryz.lays111 a1 a2 n c m d w hnm
end Go.Proofs
/- The walks of recurrence.set and of the closure 'part' of recurrence.times. -/
namespace Go.Proofs.YthilkphnjffnhaaGreat
open Go.RowKit Go.Sort
set_option linter.unusedVariables false
set_option linter.unusedSimpArgs false

/-- the elements of a list, ascending, each of them once -/
def setP (l : List Int) : List Int := Lib.compact (l.mergeSort fun x y => decide (x ≤ y))
theorem mem_compactP {zs : List Int} {x : Int} (h : x ∈ Lib.compact zs) : x ∈ zs := by
  unfold Lib.compact Lib.compactUpTo at h
  obtain ⟨i, hi, rfl⟩ := List.mem_map.1 h
  have hi' : i < zs.length := List.mem_range.1 (List.mem_filter.1 hi).1
  simp [getElem!_pos, hi']
theorem len_compactP (zs : List Int) : (Lib.compact zs).length ≤ zs.length := by
  unfold Lib.compact Lib.compactUpTo
  rw [List.length_map]
  exact Nat.le_trans (List.length_filter_le _ _) (by simp)
theorem mem_setP {l : List Int} {x : Int} (h : x ∈ setP l) : x ∈ l := (List.mem_mergeSort).1 (mem_compactP h)
theorem len_setP (l : List Int) : (setP l).length ≤ l.length := by
  have := len_compactP (l.mergeSort fun x y => decide (x ≤ y))
  rw [List.length_mergeSort] at this
  exact this

/-- a call that hands back a slice of ints in memory -/
def RetS (l : List Int) (w : World) (e : Ending) (w' : World) : Prop := ∃ s : SlI, e = .returned s.v ∧ s.l = l ∧ s.In w' ∧ Below w.heap.size w w'
theorem RetS.mk {l : List Int} {w w' : World} (s : SlI) (h1 : s.l = l) (h2 : s.In w') (h3 : Below w.heap.size w w') : RetS l w (.returned s.v) w' := ⟨s, rfl, h1, h2, h3⟩

/-- what an own row reads as -/
theorem SlI.of_own {W : World} {base : Nat} {v : Value} {l : List Int} (h : W.ownsRow base 3 1 v l.length (l.map (Value.int .i64))) (hl : l.length * 8 ≤ 140737488351232) : ∃ s : SlI, v = s.v ∧ s.l = l ∧ s.In W := by
  rcases h.2 with ⟨rfl, h0⟩ | ⟨g, cap, cur, rfl, _, hb, h1, h2, h3, h4⟩
  · obtain rfl : l = [] := List.length_eq_zero_iff.1 h0
    exact ⟨⟨none, 0, []⟩, rfl, rfl, Nat.le_refl _, by simp, fun h => absurd rfl h⟩
  · refine ⟨⟨some ⟨g, 0, none⟩, cap, l⟩, rfl, rfl, h1, hl, fun _ => ⟨g, 0, rfl, fun i hi => ?_⟩⟩
    have hH := holds_of_blockI (ss := l) hb (by simpa using h4)
    have := (hH i (by simpa using hi)).1
    simpa [getElem!_pos, show i < l.length from hi] using this

set_option maxHeartbeats 1000000 in
theorem set_any (s : SlI) (w : World) (hs : s.In w) (hne : s.l ≠ []) :
    Calls Tryz.prog 53 #[s.v] w (RetS (setP s.l) w) := by
  obtain ⟨A, c, l⟩ := s
  obtain ⟨h0, hl, hc⟩ := hs
  dsimp only at h0 hl hc hne ⊢
  obtain ⟨b, off, rfl, hcc⟩ := hc hne
  show Calls Tryz.prog 53 #[.slice (some ⟨b, off, none⟩) l.length c] w (RetS (setP l) w)
  have cl := Tryz.slices_Clone_int b off l.length c l w (Nat.le_refl _) (by omega) (fun j hj => by rw [hcc j hj]; simp [List.getD, List.getElem?_eq_getElem hj])
  rw [List.take_length] at cl
  have CL := Lib.hid cl
  have HL := Lib.hid hl
  have HN := Lib.hid (List.length_pos_iff.2 hne)
  clear cl hc hcc hne h0 hl
  go_enter Tryz.func53, Tryz.ntmps53
  go_wp2_with fail
  refine CL.out.mono ?_
  rintro e w1 ⟨v', rfl, hown, hnn, hb1⟩
  rcases hown.2 with ⟨hnil, _⟩ | ⟨g, cap, cur, rfl, hbase, hblk, h1, h2, h3, h4⟩
  · exact absurd hnil hnn
  have hH := holds_of_blockI (ss := l) hblk (by simpa using h4)
  have hg := (Array.getElem?_eq_some_iff.1 hblk).1
  have cs := Tryz.slices_Sort_int g 0 cap l w1 hH hg (by have := HL.out; omega)
  have CS := Lib.hid cs
  have HB1 := Lib.hid hb1
  have HG := Lib.hid hg
  have HBA := Lib.hid hbase
  have HCAP := Lib.hid h1
  have HH := Lib.hid hH
  clear cs hown hnn hbase hblk h1 h2 h3 h4 hb1 hg hH CL
  go_wp2_with fail
  refine CS.out.mono ?_
  rintro e w2 ⟨rfl, n2, os, hw2⟩
  have hlen : (l.mergeSort fun x y => decide (x ≤ y)).length = l.length := List.length_mergeSort _
  have hH2 : Holds (Value.int .i64) w2 g 0 (l.mergeSort fun x y => decide (x ≤ y)).toArray := by
    rw [hw2]
    refine holds_grow _ _ _ _ _ _ ?_ (holds_putRow _ _ _ _ l.toArray _ (holds_ahead _ _ _ _ _ _ HH.out) (by simp [hlen]))
    have := HG.out
    simpa [putRow, mapBlock, Sort.ahead] using this
  have hg2 : w1.grownBy w2 (some g) := by rw [hw2]; exact grownBy_sortedI _
  have hb2 : Below w.heap.size w w2 := HB1.out.grown hg2 HB1.out.size (fun j hj => by cases hj; exact HBA.out)
  have cc := Tryz.slices_Compact_int g 0 cap (l.mergeSort fun x y => decide (x ≤ y)) w2 hH2 (by rw [hlen]; have := HL.out; omega) (by rw [hlen]; exact HCAP.out)
  rw [hlen] at cc
  have CC := Lib.hid cc
  have HH2 := Lib.hid hH2
  have HB2 := Lib.hid hb2
  have HLN := Lib.hid hlen
  clear hw2 hH2 hg2 hb2 cc hlen CS HB1 HH
  go_wp2_with fail
  refine CC.out.mono ?_
  rintro e w3 ⟨rfl, q, hw3⟩
  have hlc := len_compactP (l.mergeSort fun x y => decide (x ≤ y))
  rw [HLN.out] at hlc
  have hH3 : Holds (Value.int .i64) w3 g 0 (Lib.compact (l.mergeSort fun x y => decide (x ≤ y)) ++ List.replicate (l.length - (Lib.compact (l.mergeSort fun x y => decide (x ≤ y))).length) 0).toArray := by
    rw [hw3]
    exact holds_putRow _ _ _ _ (l.mergeSort fun x y => decide (x ≤ y)).toArray _ (holds_ahead _ _ _ _ _ _ HH2.out) (by have := HLN.out; simp; omega)
  have hb3 : Below w.heap.size w w3 := by
    rw [hw3, ← grow_empty (putRow _ _ _ _ _)]
    exact HB2.out.grown (grownBy_sortedI (n := q) (os := #[]) _) HB2.out.size (fun j hj => by cases hj; exact HBA.out)
  have hin : SlI.In ⟨some ⟨g, 0, none⟩, cap, setP l⟩ w3 := by
    refine ⟨Nat.le_trans hlc HCAP.out, by have := HL.out; simp only [setP]; omega, fun _ => ⟨g, 0, rfl, fun i hi => ?_⟩⟩
    have hi' : i < (Lib.compact (l.mergeSort fun x y => decide (x ≤ y))).length := hi
    have := (hH3 i (by simp; omega)).1
    rw [this]
    simp [setP, getElem!_pos, hi', List.getElem?_append_left hi']
  have HIN := Lib.hid hin
  have HB3 := Lib.hid hb3
  clear hw3 hH3 hb3 hlc hin
  go_wp2
  go_ret
  exact ⟨_, rfl, rfl, HIN.out, HB3.out⟩

def partP (l : List Int) (o : Int) : List Int := if l = [] then [o] else setP l
theorem part_any (s : SlI) (o : Int) (w : World) (hs : s.In w) :
    Calls Tryz.prog 52 #[s.v, .int .i64 o] w (RetS (partP s.l o) w) := by
  have hl := hs.2.1
  by_cases hc : s.l = []
  · have key : partP s.l o = [o] := by unfold partP; rw [if_pos hc]
    rw [key]
    clear key hs
    obtain ⟨A, c, l⟩ := s
    dsimp only at hl hc ⊢
    subst hc
    show Calls Tryz.prog 52 #[.slice A 0 c, .int .i64 o] w (RetS [o] w)
    go_enter Tryz.func52, Tryz.ntmps52
    go_wp2
    go_ret
    refine RetS.mk ⟨some ⟨w.heap.size, 0, none⟩, 1, [o]⟩ rfl ⟨by simp, by simp, fun _ => ⟨_, 0, rfl, fun i hi => ?_⟩⟩ (by repeat (first | exact Below.refl _ _ | assumption | refine RowKit.Below.ext ?_ (by first | (simp; done) | (simp; omega) | omega) _ | refine Below.alloc ?_ (by first | (simp; done) | (simp; omega) | omega) _ | refine Below.drew ?_ | refine RowKit.Below.drawnN ?_ _ | refine Below.setCell ?_ (by first | (simp; done) | (simp; omega) | omega) _))
    have : i = 0 := by simp at hi; omega
    subst this
    simp
  · have key : partP s.l o = setP s.l := by unfold partP; rw [if_neg hc]
    rw [key]
    have cS := set_any s w hs hc
    have CS := Lib.hid cS
    clear key hs cS
    obtain ⟨A, c, l⟩ := s
    dsimp only at CS hl hc ⊢
    show Calls Tryz.prog 52 #[.slice A l.length c, .int .i64 o] w (RetS (setP l) w)
    have hcz : ((l.length : Int) == 0) = false := by simp; exact hc
    clear hc
    go_enter Tryz.func52, Tryz.ntmps52
    go_wp2_with fail
    refine CS.out.mono ?_
    rintro e w1 ⟨s1, rfl, h1, h2, h3⟩
    have H2 := Lib.hid h2
    have H3 := Lib.hid h3
    have H1 := Lib.hid h1
    clear h1 h2 h3
    go_wp2
    go_ret
    exact RetS.mk s1 H1.out H2.out H3.out

end Go.Proofs.YthilkphnjffnhaaGreat
/- Plain lists: three loops one in the other. -/
namespace Go.Proofs.YthilkphnjffnhaaGreat
set_option linter.unusedVariables false
set_option linter.unusedSimpArgs false
def tm (h m x : Int) : Int := 3600 * h + 60 * m + x
def row3 (h m : Int) (ls : List Int) : List Int := ls.map (tm h m)
def row2 (h : Int) (lm ls : List Int) : List Int := lm.flatMap fun m => row3 h m ls
def row1 (lh lm ls : List Int) : List Int := lh.flatMap fun h => row2 h lm ls
theorem take_succ_get {α : Type} (l : List α) (k : Nat) (h : k < l.length) : l.take (k + 1) = l.take k ++ [l[k]] := by
  rw [List.take_succ_eq_append_getElem h]
theorem row3_succ (h m : Int) (ls : List Int) (k : Nat) (hk : k < ls.length) : row3 h m (ls.take (k + 1)) = row3 h m (ls.take k) ++ [tm h m ls[k]] := by
  unfold row3; rw [take_succ_get _ _ hk, List.map_append]; rfl
theorem row2_succ (h : Int) (lm ls : List Int) (k : Nat) (hk : k < lm.length) : row2 h (lm.take (k + 1)) ls = row2 h (lm.take k) ls ++ row3 h lm[k] ls := by
  unfold row2; rw [take_succ_get _ _ hk, List.flatMap_append, List.flatMap_singleton]
theorem row1_succ (lh lm ls : List Int) (k : Nat) (hk : k < lh.length) : row1 (lh.take (k + 1)) lm ls = row1 (lh.take k) lm ls ++ row2 lh[k] lm ls := by
  unfold row1; rw [take_succ_get _ _ hk, List.flatMap_append, List.flatMap_singleton]
theorem len_flat {α β : Type} (f : α → List β) (c : Nat) : ∀ l : List α, (∀ a, (f a).length ≤ c) → (l.flatMap f).length ≤ l.length * c
  | [], _ => by simp
  | a :: l, h => by
    have h1 := h a
    have h2 := len_flat f c l h
    simp only [List.flatMap_cons, List.length_append, List.length_cons, Nat.add_mul]
    omega
theorem len_row3 (h m : Int) (ls : List Int) : (row3 h m ls).length = ls.length := by simp [row3]
theorem len_row2 (h : Int) (lm ls : List Int) (h1 : lm.length ≤ 60) (h2 : ls.length ≤ 60) : (row2 h lm ls).length ≤ 3600 := by
  have := len_flat (fun m => row3 h m ls) 60 lm (fun a => by rw [len_row3]; exact h2)
  unfold row2; omega
theorem len_row1 (lh lm ls : List Int) (h0 : lh.length ≤ 60) (h1 : lm.length ≤ 60) (h2 : ls.length ≤ 60) : (row1 lh lm ls).length ≤ 216000 := by
  have := len_flat (fun h => row2 h lm ls) 3600 lh (fun a => len_row2 a lm ls h1 h2)
  unfold row1; omega
theorem mem_row1 {lh lm ls : List Int} {x : Int} (h : x ∈ row1 lh lm ls) (b1 : ∀ a ∈ lh, 0 ≤ a ∧ a ≤ 23) (b2 : ∀ a ∈ lm, 0 ≤ a ∧ a ≤ 59) (b3 : ∀ a ∈ ls, 0 ≤ a ∧ a ≤ 59) : 0 ≤ x ∧ x < 86400 := by
  unfold row1 row2 row3 at h
  obtain ⟨a, ha, h⟩ := List.mem_flatMap.1 h
  obtain ⟨b, hb, h⟩ := List.mem_flatMap.1 h
  obtain ⟨c, hc, rfl⟩ := List.mem_map.1 h
  have := b1 a ha; have := b2 b hb; have := b3 c hc
  unfold tm; omega
end Go.Proofs.YthilkphnjffnhaaGreat
