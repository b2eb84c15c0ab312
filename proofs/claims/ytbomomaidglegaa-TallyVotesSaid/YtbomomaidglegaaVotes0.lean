/- Votes: what they are in memory, and as a map; small laws of maps with true and false in them. -/
import Derived.Test.YtbomomaidglegaaXTallyx9
import Derived.Test.YtbomomaidglegaaXTallyx1
import Derived.Test.YtbomomaidglegaaReach
import Derived.Maps.RangeWalk
import Derived.Maps.OwnSet
import Derived.Maps.OwnOps
import Derived.Maps.Views
import Derived.Maps.Ext
import Derived.Deep.LoopGhost
import Derived.WalkSpells
namespace Go.Proofs.Ytbomomaidglegaa.Votes
open Go Go.RowKit Go.Maps Go.Proofs.Ytbomomaidglegaa.XTally Go.Proofs.YtbomomaidglegaaW.PrintWords Go.Proofs.YtbomomaidglegaaW.PrintLast Go.Proofs.YtbomomaidglegaaW.PrintMore
set_option linter.unusedVariables false
set_option linter.unusedSimpArgs false

/-- Nothing but what F holds, and new blocks, has been written. -/
structure Kept (F : Nat → Prop) (W W' : World) : Prop where
  os : W'.os = W.os
  tape : W'.tape = W.tape
  output : W'.output = W.output
  size : W.heap.size ≤ W'.heap.size
  block : ∀ k, k < W.heap.size → ¬ F k → W'.heap[k]? = W.heap[k]?

theorem Kept.refl (F : Nat → Prop) (W : World) : Kept F W W := ⟨rfl, rfl, rfl, Nat.le_refl _, fun _ _ _ => rfl⟩
theorem Kept.of_below {F : Nat → Prop} {W W' : World} (h : Below W.heap.size W W') : Kept F W W' := ⟨h.os, h.tape, h.output, h.size, fun k hk _ => h.block k hk⟩
theorem Kept.trans {F F' : Nat → Prop} {W W' W'' : World} (h : Kept F W W') (hF : ∀ k, F' k → F k ∨ W.heap.size ≤ k) (h' : Kept F' W' W'') : Kept F W W'' :=
  ⟨h'.os.trans h.os, h'.tape.trans h.tape, h'.output.trans h.output, Nat.le_trans h.size h'.size, fun k hk hn => (h'.block k (Nat.lt_of_lt_of_le hk h.size) (fun hf => by rcases hF k hf with hf | hf; exact hn hf; omega)).trans (h.block k hk hn)⟩
theorem Kept.below {F : Nat → Prop} {W W' W'' : World} (h : Kept F W W') (h' : Below W'.heap.size W' W'') : Kept F W W'' := h.trans (F' := fun _ => False) (fun _ hf => hf.elim) (Kept.of_below h')
theorem Kept.after {F : Nat → Prop} {W W' W'' : World} (h : Below W.heap.size W W') (h' : Kept F W' W'') : Kept F W W'' := (Kept.of_below h).trans (fun _ hf => .inl hf) h'
theorem Kept.imp {F F' : Nat → Prop} {W W' : World} (h : Kept F W W') (hF : ∀ k, F k → F' k ∨ W.heap.size ≤ k) : Kept F' W W' :=
  ⟨h.os, h.tape, h.output, h.size, fun k hk hn => h.block k hk (fun hf => by rcases hF k hf with hf | hf; exact hn hf; omega)⟩
theorem below_kept {B : Nat} {w W W' : World} {F : Nat → Prop} (h : Below B w W) (hB : B ≤ W.heap.size) (hF : ∀ k, F k → B ≤ k) (hk : Kept F W W') : Below B w W' :=
  ⟨hk.os.trans h.os, hk.tape.trans h.tape, hk.output.trans h.output, Nat.le_trans h.size hk.size, fun k hkB => (hk.block k (by omega) (fun hf => by have := hF k hf; omega)).trans (h.block k hkB)⟩
theorem blk_kept {F : Nat → Prop} {W W' : World} {g : Nat} {o : Obj} (hk : Kept F W W') (h : W.heap[g]? = some o) (hF : ¬ F g) : W'.heap[g]? = some o := (hk.block g (blk_lt h) hF).trans h
theorem R_kept_ {α : Type} {d : Kd α} {e B : Nat} {ok : Nat → Prop} {W W' : World} {v : Value} {xs : List α} {F : Nat → Prop} (h : d.R e W B ok v xs) (hk : Kept F W W') (hF : ∀ k, ok k → ¬ F k) : d.R e W' B ok v xs := Kd.R_step h (fun k ho hkk => hk.block k hkk (hF k ho))
theorem drawn_below {W W' : World} (h : Drawn0 W W') : Below W.heap.size W W' := h.below
theorem drawn_kept {F : Nat → Prop} {W W' : World} (h : Drawn0 W W') : Kept F W W' := Kept.of_below h.below
theorem drawn_heap {W W' : World} (h : Drawn0 W W') : W'.heap = W.heap := by
  obtain ⟨⟨n, rfl⟩⟩ := h
  rfl

theorem kept_grown {F : Nat → Prop} {W W' : World} {row : Option Nat} (hg : W.grownBy W' row) (hr : ∀ q, row = some q → F q) : Kept F W W' :=
  ⟨hg.os, hg.tape, hg.output, hg.size, fun k hk hn => hg.block k hk (fun he => hn (hr k he.symm))⟩
theorem grown_of {W W' : World} (h : Below W.heap.size W W') : W.grownBy W' none := ⟨h.os, h.tape, h.output, h.size, fun i hi _ => h.block i hi⟩

/-! ### Maps of truth values -/
theorem plainElem_bool_inv {H : Type} {P : Program} {e : TypeId} (he : P.underlying e = some .bool) {v : Value} {z : DataW H × List MemPlace} (h : plainElem P e v = some z) : ∃ c : Bool, v = .bool c ∧ z = (.lit (.bool c), []) := by
  unfold plainElem at h
  rw [he] at h
  cases v <;> simp at h
  exact ⟨_, rfl, h.symm⟩
section
variable {P : Program} (w : World) {ops : Array Oper} {rest : List Oper} {o : Oper} {a : Act} {Q : Exit → Act → World → Prop}
/-- 'v, ok := m[k]' at elements that are truth values. -/
theorem lookup_ok_bool (hg : o.guard = none) (m x : Operand) (t : TypeId) (hop : o.op = Op.lookup t m x true)
    (k e : TypeId) (K : Keyed P k) (ht : P.underlying t = some (.map k e)) (he : P.underlying e = some .bool) (hz : (zeroValue e).run P w = .ok (.bool false) w) (b n : Nat) (D : DataW Unit)
    (hm : a.eval m = .map (some b)) (hown : w.ownsMap P k (plainElem P e) b n D) (key : Value) (kl : Lit) (hx : a.eval x = key) (hkey : keyOf P k key = some kl) (c : Bool) (hc : D.atKey kl (.lit (.bool false)) = .lit (.bool c)) (p : Bool) (hp : Maps.has D kl = p)
    (hK : wpList P ops Q rest (a.put o.dst (.tuple #[.bool c, .bool p])) w) :
    wpList P ops Q (o :: rest) a w :=
  wpList_lookup_own_ok w hg m x t hop k e K ht (plainElem P e) hz (.lit (.bool false)) [] (plainElem_bool he false) b n D hm hown key kl hx hkey (fun v ps hv => by
    obtain ⟨c', rfl, hz'⟩ := plainElem_bool_inv he hv
    have h1 := congrArg Prod.fst hz'
    rw [hc] at h1
    injection h1 with h1
    injection h1 with h1
    subst h1
    rw [hp]
    exact hK)
/-- The range's step, keys numbers, elements truth values. -/
theorem next_ib (hg : o.guard = none) (it : Operand) (hop : o.op = Op.next it false) (k e : TypeId) (qk : IntKind) (K : Keyed P k) (hk : P.underlying k = some (.int qk)) (he : P.underlying e = some .bool)
    (b r n : Nat) (D : DataW Unit) (left : Lit → Bool) (cnt : Nat) (hit : a.eval it = .pointer (some ⟨r, 0, none⟩)) (h : w.ranges P k (plainElem P e) b r n D left cnt)
    (hDone : cnt = 0 → (∀ kl, left kl = false) → wpList P ops Q rest (a.put o.dst (.tuple #[.bool false])) w)
    (hMore : ∀ (x : Int) (c : Bool) (w' : World) (cnt' : Nat), (Lit.int qk x).wf = true → left (.int qk x) = true → (∀ zd, D.atKey (.int qk x) zd = .lit (.bool c)) → w'.ranges P k (plainElem P e) b r n D (fun z => left z && !z.sameKey (.int qk x)) cnt' → cnt' < cnt →
      w.grownBy w' (some r) → w'.heap.size = w.heap.size → (Instr.entry (.pointer (some ⟨r, 0, none⟩))).run P w' = .ok (.tuple #[.int qk x, .bool c]) w' → wpList P ops Q rest (a.put o.dst (.tuple #[.bool true, .int qk x, .bool c])) w') :
    wpList P ops Q (o :: rest) a w :=
  wpList_next_ranges w hg it hop k K (plainElem P e) (Value.int qk) Value.bool (fun key kl hkey => by obtain ⟨x, rfl, _⟩ := Maps.keyOf_int_inv hk hkey; exact ⟨x, rfl⟩) (fun v y hv => by obtain ⟨c, rfl, _⟩ := plainElem_bool_inv he hv; exact ⟨c, rfl⟩)
    b r n D left cnt hit h hDone (fun x c kl y w' cnt' hkey hlk hv hat hrg hlt hgr hsz hen => by
      obtain ⟨x', ex, rfl, hwx⟩ := Maps.keyOf_int_inv hk hkey
      cases ex
      obtain ⟨c', ec, rfl⟩ := plainElem_bool_inv he hv
      cases ec
      exact hMore x c w' cnt' hwx hlk hat hrg hlt hgr hsz hen)
end

/-! ### Votes, as a map -/
def vids (vs : List (Int × Bool)) : List Int := vs.map Prod.fst
def vyes (vs : List (Int × Bool)) (x : Int) : Bool := vs.foldl (fun v p => if p.1 = x then p.2 else v) false
def Dv (vs : List (Int × Bool)) : DataW Unit := vs.foldl (fun d p => d.put (.int .i64 p.1) (.lit (.bool p.2))) (.map [])
theorem vyes_snoc (vs : List (Int × Bool)) (p : Int × Bool) (x : Int) : vyes (vs ++ [p]) x = if p.1 = x then p.2 else vyes vs x := by simp [vyes, List.foldl_append]
theorem Dv_snoc (vs : List (Int × Bool)) (p : Int × Bool) : Dv (vs ++ [p]) = (Dv vs).put (.int .i64 p.1) (.lit (.bool p.2)) := by simp [Dv, List.foldl_append]
theorem vids_snoc (vs : List (Int × Bool)) (p : Int × Bool) : vids (vs ++ [p]) = vids vs ++ [p.1] := by simp [vids]
theorem isMap_Dv (vs : List (Int × Bool)) : IsMap (Dv vs) := by
  induction vs using Reach.snoc_ind with
  | h0 => exact isMap_empty
  | h1 l x ih => rw [Dv_snoc]; exact ih.put _ _
theorem has_Dv (vs : List (Int × Bool)) (x : Int) : Maps.has (Dv vs) (.int .i64 x) = decide (x ∈ vids vs) := by
  induction vs using Reach.snoc_ind with
  | h0 => rfl
  | h1 l p ih =>
    rw [Dv_snoc, vids_snoc]
    by_cases h : x = p.1
    · subst h
      rw [has_put_same (isMap_Dv l) (Reach.key_int _)]
      simp
    · rw [has_put_other (Reach.key_ne h), ih]
      simp [h]
theorem atKey_Dv (vs : List (Int × Bool)) (x : Int) : (Dv vs).atKey (.int .i64 x) (.lit (.bool false)) = .lit (.bool (vyes vs x)) := by
  induction vs using Reach.snoc_ind with
  | h0 => rfl
  | h1 l p ih =>
    rw [Dv_snoc, vyes_snoc]
    by_cases e : x = p.1
    · subst e
      rw [atKey_put_same (isMap_Dv l) (Reach.key_int _)]
      simp
    · rw [atKey_put_other (Reach.key_ne e), if_neg (fun h => e h.symm), ih]
theorem atKey_Dv_in (vs : List (Int × Bool)) (x : Int) (h : x ∈ vids vs) (zd : DataW Unit) : (Dv vs).atKey (.int .i64 x) zd = .lit (.bool (vyes vs x)) := by
  induction vs using Reach.snoc_ind with
  | h0 => simp [vids] at h
  | h1 l p ih =>
    rw [Dv_snoc, vyes_snoc]
    by_cases e : x = p.1
    · subst e
      rw [atKey_put_same (isMap_Dv l) (Reach.key_int _)]
      simp
    · rw [atKey_put_other (Reach.key_ne e), if_neg (fun h => e h.symm)]
      refine ih ?_
      rw [vids_snoc] at h
      rcases List.mem_append.1 h with h | h
      · exact h
      · simp at h; exact absurd h e
theorem vyes_out (vs : List (Int × Bool)) (x : Int) (h : x ∉ vids vs) : vyes vs x = false := by
  induction vs using Reach.snoc_ind with
  | h0 => rfl
  | h1 l p ih =>
    rw [vids_snoc] at h
    rw [vyes_snoc, if_neg (fun e => h (by simp [e]))]
    exact ih (fun h2 => h (by simp [h2]))

/-! ### Votes in memory -/
/-- Votes at block gv, their map at gm: a configuration, and who voted how. -/
def IsV (B : Nat) (W : World) (gv gm : Nat) (o n : List Int) (vs : List (Int × Bool)) : Prop :=
  ∃ Ao co An cn, W.heap[gv]? = some (.cells #[.slice Ao o.length co, .slice An n.length cn, .map (some gm)] 97 (0, 0)) ∧ Kd.R (Kd.int .i64) 3 W B (fun _ => True) (.slice Ao o.length co) o ∧ Kd.R (Kd.int .i64) 3 W B (fun _ => True) (.slice An n.length cn) n ∧
    W.ownsMap Try.prog 3 (plainElem (H := Unit) Try.prog 4) gm vs.length (Dv vs) ∧ B ≤ gv ∧ B ≤ gm
theorem map_not_cells {W : World} {gm g : Nat} {cs : Array Value} {t : TypeId} {N : Nat} {D : DataW Unit} {P : Program} {k e : TypeId} (h : W.ownsMap P k (plainElem (H := Unit) P e) gm N D) (hg : W.heap[g]? = some (.cells cs t (0, 0))) : g ≠ gm := by
  obtain ⟨es, clock, hm, _⟩ := h
  rintro rfl
  rw [hm] at hg
  injection hg with hg
  cases hg
theorem IsV.below {B : Nat} {W W' : World} {gv gm : Nat} {o n : List Int} {vs : List (Int × Bool)} (h : IsV B W gv gm o n vs) (hb : Below W.heap.size W W') : IsV B W' gv gm o n vs := by
  obtain ⟨Ao, co, An, cn, hg, h1, h2, hm, hB, hC⟩ := h
  exact ⟨Ao, co, An, cn, blk_below hg hb, Kd.R_below h1 hb, Kd.R_below h2 hb, hm.kept (grown_of hb) (by simp), hB, hC⟩
/-- Behind a vote: the map alone has changed. -/
theorem IsV.vote {B : Nat} {W W' : World} {gv gm : Nat} {o n : List Int} {vs : List (Int × Bool)} (h : IsV B W gv gm o n vs) (hg : W.grownBy W' (some gm)) (id : Int) (y : Bool)
    (hm' : W'.ownsMap Try.prog 3 (plainElem (H := Unit) Try.prog 4) gm (vs.length + 1) ((Dv vs).put (.int .i64 id) (.lit (.bool y)))) : IsV B W' gv gm o n (vs ++ [(id, y)]) := by
  obtain ⟨Ao, co, An, cn, hgv, h1, h2, hm, hB, hC⟩ := h
  have hne := map_not_cells hm hgv
  have hr : ∀ (v : Value) (l : List Int), Kd.R (Kd.int .i64) 3 W B (fun _ => True) v l → Kd.R (Kd.int .i64) 3 W' B (fun _ => True) v l := fun v l h =>
    Kd.R_grown2 h rfl hg (fun q hq he => by
      injection hq with hq
      subst hq
      obtain ⟨cells, hc⟩ := Kd.R_typed h gm he.symm
      exact map_not_cells hm hc rfl)
  refine ⟨Ao, co, An, cn, blk_grown hgv hg (fun e => by injection e with e; exact hne e), hr _ _ h1, hr _ _ h2, ?_, hB, hC⟩
  rw [List.length_append, Dv_snoc]
  exact hm'
end Go.Proofs.Ytbomomaidglegaa.Votes
