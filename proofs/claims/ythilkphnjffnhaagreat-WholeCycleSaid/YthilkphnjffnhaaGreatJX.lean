/- The walk of Matches, whole. -/
import Derived.Test.YthilkphnjffnhaaGreatW8
import Derived.Test.YthilkphnjffnhaaGreatW9
import Derived.Test.YthilkphnjffnhaaGreatW10
import Derived.Test.YthilkphnjffnhaaGreatW11
import Derived.Test.YthilkphnjffnhaaGreatG1
namespace Go.Proofs.YthilkphnjffnhaaGreat
open Go.RowKit
theorem matches_any (r : Rc) (t l : Int) (w : World) (hr : r.In w) (hv : validB r = true) (ht : inP t) (hl : inP l) (hl7 : -62087040000 ≤ l) :
    Calls Tryz.prog 10 #[r.val, .int .i64 t, .int .i64 l] w fun e w' => e = .returned (.tuple #[.bool (matchP r t l), .int .i64 0]) ∧ Below w.heap.size w w' := by
  cases he : earlyP r t l
  · cases hany : ((timesP r.f r.ho.l r.mi.l r.se.l (t % 86400)).any fun y => l % 86400 == y)
    · exact matches_l1 r t l w hr hv ht hl hl7 he hany
    · cases hpb : passP r (diP (t / 86400)) (l / 86400)
      · exact matches_l2 r t l w hr hv ht hl hl7 he hany hpb
      · by_cases p : r.po.l.length = 0
        · exact matches_l3 r t l w hr hv ht hl hl7 he hany hpb p (by rw [p]; rfl)
        · exact matches_l4 r t l w hr hv ht hl hl7 he hany hpb (by omega) (decide_eq_false (by omega))
  · have e : matchP r t l = false := by unfold matchP; rw [he]; rfl
    rw [e]
    exact matches_early r t l w hr hv ht hl he
end Go.Proofs.YthilkphnjffnhaaGreat
/- WholeCycle, whole. -/
namespace Go.Proofs.YthilkphnjffnhaaGreat
open Go.RowKit
theorem whole_yes (r : Rc) (t : Int) (s : Sl4) (day f mn n : Int) (w : World) (hr : r.In w) (hs : s.In w) (hn1 : -32768 ≤ n) (hn2 : n ≤ 32767) :
    Calls Tryz.prog 3 #[r.val, .int .i64 t, s.v, .int .i64 day, .agg #[.int .i64 f, .int .i64 mn], .int .i16 n] w fun e w' => e = .returned (.bool true) ∧ Below w.heap.size w w' :=
  whole_any (fun r t l w hr hv ht hl h7 => matches_any r t l w hr hv ht hl h7) r t s day f mn n w hr hs hn1 hn2
end Go.Proofs.YthilkphnjffnhaaGreat
