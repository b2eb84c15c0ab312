/- Laid by xprint.py, a program of this session, which runs the kit's print with contracts of its own. -/
import Derived.Test.YtimeknpdgloenaaXConfMorex0
namespace Go.Proofs.Ytimeknpdgloenaa.XConfMore
open Go.RowKit Go.Proofs.YtimeknpdgloenaaW.PrintWords Go.Proofs.YtimeknpdgloenaaW.PrintLast Go.Proofs.YtimeknpdgloenaaW.PrintMore
attribute [local go_sem] max2_int min2_int max_two min_two max_three min_three max_four min_four   -- for this text's walks alone
set_option linter.unusedVariables false
set_option linter.unusedSimpArgs false

-- NOT PRINTED: function 51 (slices_pdqsortOrdered_int)

-- NOT PRINTED: function 47 (slices_Sort_int_int)

-- NOT PRINTED: function 48 (slices_Compact_int_int)

/-! ### conf_Members: function 37, by hand -/
def conf_Members.f (l0_0 : List Int) (l0_1 : List Int) : Option (List Int) := if 0 < l0_0.length + l0_1.length then (if l0_0.length + l0_1.length < 1000000 then some (Mem.members l0_0 l0_1) else none) else none
theorem conf_Members.calls (A0_0 : Option Addr) (c0_0 : Nat) (l0_0 : List Int) (A0_1 : Option Addr) (c0_1 : Nat) (l0_1 : List Int) (r : List Int) (w : World) (hr0_0 : Kd.C (Kd.int .i64) w A0_0 l0_0.length l0_0) (hc0_0 : l0_0.length ≤ c0_0) (hr0_1 : Kd.C (Kd.int .i64) w A0_1 l0_1.length l0_1) (hc0_1 : l0_1.length ≤ c0_1) (h : conf_Members.f l0_0 l0_1 = some r) :
    Calls Try.prog 37 #[.agg #[.slice A0_0 l0_0.length c0_0, .slice A0_1 l0_1.length c0_1]] w fun e w' => ∃ v0_ : Value, e = .returned (v0_) ∧ Kd.R (Kd.int .i64) 3 w' w.heap.size (fun _ => True) v0_ r ∧ Below w.heap.size w w' := by
  unfold conf_Members.f at h
  by_cases h1 : 0 < l0_0.length + l0_1.length
  · rw [if_pos h1] at h
    by_cases h2 : l0_0.length + l0_1.length < 1000000
    · rw [if_pos h2] at h
      obtain rfl := Option.some.inj h
      exact Mem.walk Try.slices_Sort_int Try.slices_Compact_int A0_0 c0_0 l0_0 A0_1 c0_1 l0_1 w hr0_0 hc0_0 hr0_1 hc0_1 h1 h2
    · rw [if_neg h2] at h
      cases h
  · rw [if_neg h1] at h
    cases h

end Go.Proofs.Ytimeknpdgloenaa.XConfMore
