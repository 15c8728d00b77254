/- Small laws for the walk of Matches. -/
import Derived.Test.YthilkphnjffnhaaGreatW7
namespace Go.Proofs.YthilkphnjffnhaaGreat
open Go.RowKit
set_option linter.unusedVariables false
set_option linter.unusedSimpArgs false
theorem at_worldE2 {K : Act → World → Prop} {Q : Exit → Act → World → Prop} {a : Act} {W0 : World} (C : World → Prop) (h : C W0) (hw : ∀ W, C W → Exit.then K Q .normal a W) : Exit.then K Q .normal a W0 := hw W0 h
theorem cont_b (v : Int) (s : SlI) (w : World) (b : Bool) (hs : s.In w) (hb : (s.l.any fun y => v == y) = b) :
    Calls Tryz.prog 29 #[s.v, .int .i64 v] w fun e w' => e = .returned (.bool b) ∧ w = w' := by
  rw [← hb]; exact contains_any v s w hs
end Go.Proofs.YthilkphnjffnhaaGreat
