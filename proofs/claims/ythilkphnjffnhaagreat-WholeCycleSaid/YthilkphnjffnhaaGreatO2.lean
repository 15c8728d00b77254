/- The walk of the iterator of the occurrences, whatever the rule is. -/
import Derived.Test.YthilkphnjffnhaaGreatA1
import Derived.Test.YthilkphnjffnhaaGreatA2
import Derived.Test.YthilkphnjffnhaaGreatA3
import Derived.Test.YthilkphnjffnhaaGreatA4
import Derived.Test.YthilkphnjffnhaaGreatJS
namespace Go.Proofs.YthilkphnjffnhaaGreat
open Go.RowKit
set_option linter.unusedVariables false
set_option linter.unusedSimpArgs false
theorem all_seq (r : Rc) (t fr to : Int) (bR bS bF bT : Nat) (w0 w : World) (L : List Int) (hr : r.In w0) (hw0 : Below w0.heap.size w0 w) (hv : validB r = true)
    (ht1 : -62066476800 ≤ t) (ht2 : t < 253402300800) (hf1 : -62135596800 ≤ fr) (hf2 : fr < 253402300800) (ho1 : -62135596800 ≤ to) (ho2 : to ≤ 253402300800)
    (c1 : ∀ o, w.cell? ⟨bR, o, none⟩ = r.cells[o]?) (c2 : w.cell? ⟨bS, 0, none⟩ = some (.int .i64 t)) (c3 : w.cell? ⟨bF, 0, none⟩ = some (.int .i64 fr)) (c4 : w.cell? ⟨bT, 0, none⟩ = some (.int .i64 to))
    (hL : AllL r t fr to L) :
    SeqS Tryz.prog 61 #[.pointer (some ⟨bR, 0, none⟩), .pointer (some ⟨bS, 0, none⟩), .pointer (some ⟨bF, 0, none⟩), .pointer (some ⟨bT, 0, none⟩)] (fun x : Int => #[.int .i64 x]) L (fun k => k < w0.heap.size ∨ k = bR ∨ k = bS ∨ k = bF ∨ k = bT) w := by
  by_cases hu : r.un = 0
  · by_cases h5 : r.f = 5
    · exact all_b r t fr to bR bS bF bT w0 w L hr hw0 hv ht1 ht2 hf1 hf2 ho1 ho2 c1 c2 c3 c4 hL hu h5
    · exact all_a r t fr to bR bS bF bT w0 w L hr hw0 hv ht1 ht2 hf1 hf2 ho1 ho2 c1 c2 c3 c4 hL hu h5
  · by_cases h5 : r.f = 5
    · exact all_d r t fr to bR bS bF bT w0 w L hr hw0 hv ht1 ht2 hf1 hf2 ho1 ho2 c1 c2 c3 c4 hL hu h5
    · exact all_c r t fr to bR bS bF bT w0 w L hr hw0 hv ht1 ht2 hf1 hf2 ho1 ho2 c1 c2 c3 c4 hL hu h5

end Go.Proofs.YthilkphnjffnhaaGreat
