/- What came in, read as data, is of a kind: numbers, truth values, texts, rows of these, structs of these. No program in sight. -/
import Derived.Test.YtbomomaidglegaaWWords
import Derived.ChangeArms
import Derived.Deep.Slices
namespace Go.Proofs.Ytbomomaidglegaa.Opens
open Go.RowKit Go.Proofs.YtbomomaidglegaaW.PrintWords

/-- A value of type t that can be read as data is of the kind d, and what it reads as is ok. -/
def Opens {α : Type} (P : Program) (d : Kd α) (t : TypeId) (ok : α → Prop) : Prop :=
  ∀ (H : Type) (enc : TypeId × Value → H) (w : World) (base : Nat) (spare : Nat → Bool) (held : Bool) (fuel : Nat) (cs : List Value) (x : DataW H × List MemPlace),
    DataW.trod enc P w base spare held fuel t cs = some x → ∃ a, d.K w a cs ∧ ok a

theorem Opens.mono {α : Type} {P : Program} {d : Kd α} {t : TypeId} {ok ok' : α → Prop} (h : Opens P d t ok) (hi : ∀ a, ok a → ok' a) : Opens P d t ok' :=
  fun H enc w base spare held fuel cs x hx => by
    obtain ⟨a, h1, h2⟩ := h H enc w base spare held fuel cs x hx
    exact ⟨a, h1, hi a h2⟩

theorem Opens.int {P : Program} {t : TypeId} {k : IntKind} (ht : P.underlying t = some (.int k)) : Opens P (Kd.int k) t (fun n => (Lit.int k n).wf = true) :=
  fun _ _ _ _ _ _ _ _ _ hx => by
    obtain ⟨n, rfl, _, hn⟩ := DataW.trod_int ht hx
    exact ⟨n, rfl, hn⟩

theorem Opens.bool {P : Program} {t : TypeId} (ht : P.underlying t = some .bool) : Opens P Kd.bool t (fun _ => True) :=
  fun _ _ _ _ _ _ _ _ _ hx => by
    obtain ⟨b, rfl, _⟩ := DataW.trod_bool ht hx
    exact ⟨b, rfl, trivial⟩

theorem Opens.string {P : Program} {t : TypeId} (ht : P.underlying t = some .string) : Opens P Kd.string t (fun s => s.size ≤ maxLen) :=
  fun _ _ _ _ _ _ _ _ _ hx => by
    obtain ⟨b, rfl, _, hb⟩ := DataW.trod_string ht hx
    exact ⟨b, rfl, hb⟩

/-- For each index a value: a list. -/
theorem list_of {α : Type} (n : Nat) (p : Nat → α → Prop) (h : ∀ i, i < n → ∃ a, p i a) : ∃ l : List α, l.length = n ∧ ∀ i a, l[i]? = some a → p i a := by
  induction n with
  | zero => exact ⟨[], rfl, fun i a h => by simp at h⟩
  | succ n ih =>
    obtain ⟨l, hl, hp⟩ := ih (fun i hi => h i (by omega))
    obtain ⟨a, ha⟩ := h n (by omega)
    refine ⟨l ++ [a], by simp [hl], fun i b hb => ?_⟩
    rcases Nat.lt_or_ge i l.length with hi | hi
    · rw [List.getElem?_append_left hi] at hb
      exact hp i b hb
    · rw [List.getElem?_append_right hi] at hb
      have hin : i = n := by
        have := (List.getElem?_eq_some_iff.1 hb).1
        simp at this
        omega
      subst hin
      have : a = b := by simpa [hl] using hb
      subst this
      exact ha

theorem Opens.slice {α : Type} {P : Program} {d : Kd α} {t e : TypeId} {ok : α → Prop} (ht : P.underlying t = some (.slice e)) (hc : P.cellsOf e = d.sz) (hd : Opens P d e ok) :
    Opens P (Kd.slice e d) t (fun l => l.length ≤ maxLen ∧ ∀ a ∈ l, ok a) :=
  fun H enc w base spare held fuel cs x hx => by
    rcases Deep.open_slice ht hx with ⟨rfl, _⟩ | ⟨a, len, cap, m, n, D, Pl, rfl, _, hl, hm, hmm, _, hx⟩
    · exact ⟨[], ⟨none, 0, rfl, Nat.le_refl _, rfl, by simp, fun h => absurd h (Nat.lt_irrefl 0)⟩, by simp, fun a ha => by simp at ha⟩
    · have hlm : len ≤ m := by rw [hmm]; split <;> omega
      obtain ⟨l, hll, hp⟩ := list_of len (fun i y => ok y ∧ ∃ c, w.cells? base (a.add (i * d.sz)) d.sz = some c ∧ d.K w y c) (fun i hi => by
        obtain ⟨cs', h1, h2⟩ := hx i (by omega)
        obtain ⟨y, hk, ho⟩ := hd H enc w base spare held n cs' _ h2
        rw [hc] at h1
        exact ⟨y, ho, cs', h1, hk⟩)
      have hmx : maxLen ≤ 9223372036854775807 := by unfold maxLen; omega
      refine ⟨l, ⟨some a, cap, by rw [hll], by rw [hll]; exact hl, rfl, by omega, fun _ => ⟨a, rfl, fun j y hj => ?_⟩⟩, by omega, fun y hy => ?_⟩
      · obtain ⟨_, c, h1, hk⟩ := hp j y hj
        obtain ⟨_, hcl, hcell⟩ := World.cells?_some h1
        refine ⟨c, hcl, hk, fun i u hu => ?_⟩
        have hlt : i < d.sz := by rw [← hcl]; exact (List.getElem?_eq_some_iff.1 hu).1
        have := hcell i hlt
        rw [hu] at this
        rw [← this, Addr.add_add]
      · obtain ⟨i, hi⟩ := List.mem_iff_getElem?.1 hy
        exact (hp i y hi).1

/-- The fields from some one on: a value whose cells lie from off on. -/
def OpensF {α : Type} (P : Program) (d : Kd α) (fs : List Field) (off : Nat) (ok : α → Prop) : Prop :=
  ∀ (H : Type) (enc : TypeId × Value → H) (w : World) (base : Nat) (spare : Nat → Bool) (held : Bool) (n : Nat) (cs : List Value),
    (∀ f ∈ fs, ∃ y : DataW H × List MemPlace, DataW.trod enc P w base spare held n f.type ((cs.drop f.offset).take (P.cellsOf f.type)) = some y) → cs.length = off + d.sz → ∃ a, d.K w a (cs.drop off) ∧ ok a

theorem OpensF.last {α : Type} {P : Program} {d : Kd α} {f : Field} {ok : α → Prop} (hc : P.cellsOf f.type = d.sz) (h : Opens P d f.type ok) : OpensF P d [f] f.offset ok :=
  fun H enc w base spare held n cs hf hl => by
    obtain ⟨y, hy⟩ := hf f (by simp)
    rw [hc, List.take_of_length_le (by rw [List.length_drop]; omega)] at hy
    exact h H enc w base spare held n _ y hy

theorem OpensF.cons {α β : Type} {P : Program} {d : Kd α} {d2 : Kd β} {f : Field} {fs : List Field} {ok : α → Prop} {ok2 : β → Prop} {off : Nat} (hc : P.cellsOf f.type = d.sz) (ho : off = f.offset + d.sz)
    (h : Opens P d f.type ok) (h2 : OpensF P d2 fs off ok2) : OpensF P (Kd.pair d d2) (f :: fs) f.offset (fun p => ok p.1 ∧ ok2 p.2) :=
  fun H enc w base spare held n cs hf hl => by
    have hl' : cs.length = f.offset + (d.sz + d2.sz) := hl
    obtain ⟨y, hy⟩ := hf f (by simp)
    rw [hc] at hy
    obtain ⟨a, ha, hao⟩ := h H enc w base spare held n _ y hy
    obtain ⟨b, hb, hbo⟩ := h2 H enc w base spare held n cs (fun g hg => hf g (by simp [hg])) (by omega)
    refine ⟨(a, b), ⟨(cs.drop f.offset).take d.sz, cs.drop off, ?_, ha, hb⟩, hao, hbo⟩
    rw [ho, ← List.drop_drop, List.take_append_drop]

theorem Opens.struct {α : Type} {P : Program} {d : Kd α} {t : TypeId} {fs : List Field} {ok : α → Prop} (ht : P.underlying t = some (.struct fs.toArray)) (hc : P.cellsOf t = d.sz) (h : OpensF P d fs 0 ok) : Opens P d t ok :=
  fun H enc w base spare held fuel cs x hx => by
    obtain ⟨xs, n, _, _, hl, hlen, hf⟩ := DataW.trod_struct ht hx
    have hl0 : cs.length = 0 + d.sz := by omega
    have := h H enc w base spare held n cs (fun f hf' => by
      obtain ⟨i, hi⟩ := List.mem_iff_getElem?.1 hf'
      have hi' : fs.toArray[i]? = some f := by simpa using hi
      have hlt : i < xs.length := by
        rw [hlen]
        simpa using (List.getElem?_eq_some_iff.1 hi).1
      exact ⟨xs[i], by rw [hf i f hi']; exact List.getElem?_eq_getElem hlt⟩) hl0
    rwa [List.drop_zero] at this

/-- A Lean structure by its fields. -/
theorem Opens.iso {α β : Type} {P : Program} {d : Kd α} {t : TypeId} {ok : α → Prop} {f : β → α} (g : α → β) (hg : ∀ a, f (g a) = a) (h : Opens P d t ok) : Opens P (Kd.iso d f) t (fun b => ok (f b)) :=
  fun H enc w base spare held fuel cs x hx => by
    obtain ⟨a, h1, h2⟩ := h H enc w base spare held fuel cs x hx
    exact ⟨g a, show d.K w (f (g a)) cs by rw [hg]; exact h1, by show ok (f (g a)); rw [hg]; exact h2⟩

/-- A slice that is an argument. -/
theorem Opens.arg {α : Type} {P : Program} {d : Kd α} {t e : TypeId} {ok : α → Prop} (ht : P.underlying t = some (.slice e)) (hc : P.cellsOf e = d.sz) (hd : Opens P d e ok)
    {H : Type} {enc : TypeId × Value → H} {W : World} {base : Nat} {spare : Nat → Bool} {held : Bool} {A : Option Addr} {n c : Nat} {y : DataW H} {ps : List MemPlace} (h : DataW.Trod enc P W base spare held t (.slice A n c) y ps) :
    ∃ l : List α, n = l.length ∧ l.length ≤ c ∧ d.C W A l.length l ∧ l.length ≤ maxLen ∧ ∀ a ∈ l, ok a := by
  obtain ⟨fuel, hf⟩ := h
  obtain ⟨l, ⟨A', c', he, hl, hC⟩, hm, ho⟩ := Opens.slice ht hc hd H enc W base spare held fuel _ _ hf
  simp only [Value.cells, List.cons.injEq, Value.slice.injEq, and_true] at he
  obtain ⟨rfl, rfl, rfl⟩ := he
  exact ⟨l, rfl, hl, hC, hm, ho⟩
end Go.Proofs.Ytbomomaidglegaa.Opens
