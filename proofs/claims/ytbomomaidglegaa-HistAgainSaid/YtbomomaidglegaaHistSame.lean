/- SameInts, SameEntry, SameEntries of what is the same. -/
import Derived.Test.YtbomomaidglegaaHistFrom
import Derived.Test.YtbomomaidglegaaXHistx4
namespace Go.Proofs.Ytbomomaidglegaa.Hist
open Go Go.RowKit Go.Proofs.Ytbomomaidglegaa.XHist Go.Proofs.YtbomomaidglegaaW.PrintWords Go.Proofs.YtbomomaidglegaaW.PrintLast Go.Proofs.YtbomomaidglegaaW.PrintMore
set_option linter.unusedVariables false

theorem ints_l (l : List Int) (hl : l.length ≤ 1000000) (d : Nat) : ∀ (k i : Nat), i ≤ l.length → l.length - i = d → d < k → synodalref2_SameInts.l0 k l l (i : Int) = some true := by
  induction d with
  | zero =>
    intro k i h1 h2 h3
    obtain ⟨k, rfl⟩ : ∃ m, k = m + 1 := ⟨k - 1, by omega⟩
    simp only [synodalref2_SameInts.l0]
    rw [if_neg (by omega)]
  | succ d ih =>
    intro k i h1 h2 h3
    obtain ⟨k, rfl⟩ : ∃ m, k = m + 1 := ⟨k - 1, by omega⟩
    have hn : wrap64 ((i : Int) + 1) = ((i + 1 : Nat) : Int) := by unfold wrap64; omega
    simp only [synodalref2_SameInts.l0]
    rw [if_pos (by omega), if_pos (by omega), if_pos (by omega), hn]
    simp only [if_true]
    exact ih k (i + 1) (by omega) (by omega) (by omega)
theorem ints_f (l : List Int) (hl : l.length ≤ 1000000) (k : Nat) (hk : l.length < k) : synodalref2_SameInts.f k l l = some true := by
  unfold synodalref2_SameInts.f
  rw [if_pos rfl]
  exact ints_l l hl l.length k 0 (by omega) (by omega) hk
theorem entry_f (x : S77) (hx : x.f4.length ≤ 1000000) (k : Nat) (hk : x.f4.length < k) : synodalref2_SameEntry.f k x.f0 x.f1 x.f2 x.f3 x.f4 x.f5 x.f0 x.f1 x.f2 x.f3 x.f4 x.f5 = some true := by
  unfold synodalref2_SameEntry.f
  simp only [if_true]
  rw [ints_f x.f4 hx k hk]
  rfl
theorem entries_l (l : List S77) (hl : l.length ≤ 1000000) (hm : ∀ x ∈ l, x.f4.length ≤ 1000000) (d : Nat) : ∀ (k i : Nat), i ≤ l.length → l.length - i = d → d + 1000001 < k → synodalref2_SameEntries.l0 k l l (i : Int) = some true := by
  induction d with
  | zero =>
    intro k i h1 h2 h3
    obtain ⟨k, rfl⟩ : ∃ m, k = m + 1 := ⟨k - 1, by omega⟩
    simp only [synodalref2_SameEntries.l0]
    rw [if_neg (by omega)]
  | succ d ih =>
    intro k i h1 h2 h3
    obtain ⟨k, rfl⟩ : ∃ m, k = m + 1 := ⟨k - 1, by omega⟩
    have hlt : i < l.length := by omega
    have hn : wrap64 ((i : Int) + 1) = ((i + 1 : Nat) : Int) := by unfold wrap64; omega
    have hmi := hm _ (List.getElem_mem hlt)
    rw [← rd77_at l i hlt] at hmi
    simp only [synodalref2_SameEntries.l0]
    rw [if_pos (by omega), if_pos (by omega), if_pos (by omega), entry_f _ hmi k (by omega), hn]
    simp only [Option.bind_some, if_true]
    exact ih k (i + 1) (by omega) (by omega) (by omega)

theorem same_ints (A0 : Option Addr) (c0 : Nat) (A1 : Option Addr) (c1 : Nat) (l : List Int) (w : World) (h0 : Kd.C (Kd.int .i64) w A0 l.length l) (hc0 : l.length ≤ c0) (h1 : Kd.C (Kd.int .i64) w A1 l.length l) (hc1 : l.length ≤ c1) (hl : l.length ≤ 1000000) :
    Calls Try.prog 43 #[.slice A0 l.length c0, .slice A1 l.length c1] w fun e w' => e = .returned (.bool true) ∧ Drawn0 w w' :=
  synodalref2_SameInts.calls _ A0 c0 l A1 c1 l true w h0 hc0 h1 hc1 (ints_f l hl (l.length + 1) (by omega))
theorem same_entry (A0 : Option Addr) (c0 : Nat) (A1 : Option Addr) (c1 : Nat) (x : S77) (w : World) (h0 : Kd.C (Kd.int .i64) w A0 x.f4.length x.f4) (hc0 : x.f4.length ≤ c0) (h1 : Kd.C (Kd.int .i64) w A1 x.f4.length x.f4) (hc1 : x.f4.length ≤ c1) (hl : x.f4.length ≤ 1000000) :
    Calls Try.prog 47 #[.agg #[.int .i64 x.f0, .int .i64 x.f1, .int .i64 x.f2, .string x.f3, .slice A0 x.f4.length c0, .int .i64 x.f5], .agg #[.int .i64 x.f0, .int .i64 x.f1, .int .i64 x.f2, .string x.f3, .slice A1 x.f4.length c1, .int .i64 x.f5]] w fun e w' => e = .returned (.bool true) ∧ Below w.heap.size w w' :=
  synodalref2_SameEntry.calls _ x.f0 x.f1 x.f2 x.f3 A0 c0 x.f4 x.f5 x.f0 x.f1 x.f2 x.f3 A1 c1 x.f4 x.f5 true w h0 hc0 h1 hc1 (entry_f x hl (x.f4.length + 1) (by omega))
theorem same_entries (A0 : Option Addr) (c0 : Nat) (A1 : Option Addr) (c1 : Nat) (l : List S77) (w : World) (h0 : Kd.C k77 w A0 l.length l) (hc0 : l.length ≤ c0) (h1 : Kd.C k77 w A1 l.length l) (hc1 : l.length ≤ c1) (hl : l.length ≤ 1000000) (hm : ∀ x ∈ l, x.f4.length ≤ 1000000) :
    Calls Try.prog 44 #[.slice A0 l.length c0, .slice A1 l.length c1] w fun e w' => e = .returned (.bool true) ∧ Below w.heap.size w w' := by
  refine synodalref2_SameEntries.calls (3000000) A0 c0 l A1 c1 l true w h0 hc0 h1 hc1 ?_
  unfold synodalref2_SameEntries.f
  rw [if_pos rfl]
  exact entries_l l hl hm l.length 3000000 0 (by omega) (by omega) (by omega)

/-- A block that is written out, as a row. -/
theorem C_ints {w : World} {H : Nat} {v : Int} (h : w.heap[H]? = some (.cells #[.int .i64 v] 3 (0, 0))) : Kd.C (Kd.int .i64) w (some ⟨H, 0, none⟩) [v].length [v] := by
  have ho : w.ownsRow 0 3 1 (.slice (some ⟨H, 0, none⟩) 1 1) [v].length (encs (Value.int .i64) [v]) := ⟨by simp [encs], .inr ⟨H, 1, #[.int .i64 v], rfl, Nat.zero_le _, h, by simp, by unfold maxLen; omega, by simp, by simp [encs]⟩⟩
  exact (Kd.R_reads' (Kd.R_of_own (h1 := fun _ => rfl) (ok := fun _ => True) ho (fun _ _ => trivial))).2.2
theorem C_entry {w : World} {H : Nat} {a b c d : Int} (h : w.heap[H]? = some (.cells #[.int .i64 a, .int .i64 b, .int .i64 c, .string ⟨#[]⟩, .slice none 0 0, .int .i64 d] 77 (0, 0))) :
    Kd.C k77 w (some ⟨H, 0, none⟩) [(⟨a, b, c, ⟨#[]⟩, [], d⟩ : S77)].length [(⟨a, b, c, ⟨#[]⟩, [], d⟩ : S77)] := by
  have hr : k77.R 77 w 0 (fun _ => True) (.slice (some ⟨H, 0, none⟩) 1 1) [(⟨a, b, c, ⟨#[]⟩, [], d⟩ : S77)] :=
    ⟨fun _ _ => trivial, [.int .i64 a, .int .i64 b, .int .i64 c, .string ⟨#[]⟩, .slice none 0 0, .int .i64 d], ⟨rfl, .inr ⟨H, 1, _, rfl, Nat.zero_le _, h, Nat.le_refl _, by unfold maxLen; omega, rfl, rfl⟩⟩,
      Reps.cons_ (k77_mkM _ _ _ (⟨a, b, c, ⟨#[]⟩, [], d⟩ : S77) (Kd.R_nil _ _ _ _ _)) rfl (Reps.none _ _)⟩
  exact (Kd.R_reads' hr).2.2
end Go.Proofs.Ytbomomaidglegaa.Hist
