/- tally.Reach, by hand: the greatest index that a quorum has reached, whatever the order in which the map is ranged over. -/
import Derived.Test.YtbomomaidglegaaWMore
import Derived.Test.YtbomomaidglegaaProg
import Derived.Maps.RangeWalk
import Derived.Maps.OwnOps
import Derived.Maps.Views
import Derived.Maps.Ext
import Derived.Deep.LoopGhost
import Derived.WalkSpells
namespace Go.Proofs.Ytbomomaidglegaa.Reach
open Go Go.RowKit Go.Maps Go.Proofs.YtbomomaidglegaaW.PrintWords Go.Proofs.YtbomomaidglegaaW.PrintLast Go.Proofs.YtbomomaidglegaaW.PrintMore
set_option linter.unusedVariables false

/-! ### The marks, as a map -/
/-- Who has a mark. -/
def ids (m : List (Int × Int)) : List Int := m.map Prod.fst
/-- How far somebody has come: the last mark counts. -/
def upto (m : List (Int × Int)) (x : Int) : Int := m.foldl (fun v p => if p.1 = x then p.2 else v) 0
/-- The map of the first k marks. -/
def Dm (m : List (Int × Int)) : DataW Unit := m.foldl (fun d p => d.put (.int .i64 p.1) (.lit (.int .i64 p.2))) (.map [])
/-- Whoever has come to an index. -/
def yes (m : List (Int × Int)) (t : Int) : List Int := (ids m).filter (fun j => decide (t ≤ upto m j))

theorem upto_snoc (m : List (Int × Int)) (p : Int × Int) (x : Int) : upto (m ++ [p]) x = if p.1 = x then p.2 else upto m x := by simp [upto, List.foldl_append]
theorem Dm_snoc (m : List (Int × Int)) (p : Int × Int) : Dm (m ++ [p]) = (Dm m).put (.int .i64 p.1) (.lit (.int .i64 p.2)) := by simp [Dm, List.foldl_append]
theorem ids_snoc (m : List (Int × Int)) (p : Int × Int) : ids (m ++ [p]) = ids m ++ [p.1] := by simp [ids]

theorem snoc_ind {α : Type} {P : List α → Prop} (h0 : P []) (h1 : ∀ l x, P l → P (l ++ [x])) : ∀ l, P l := by
  intro l
  rw [← List.reverse_reverse l]
  induction l.reverse with
  | nil => exact h0
  | cons x l ih => rw [List.reverse_cons]; exact h1 _ _ ih

theorem isMap_Dm (m : List (Int × Int)) : IsMap (Dm m) := by
  induction m using snoc_ind with
  | h0 => exact isMap_empty
  | h1 l x ih => rw [Dm_snoc]; exact ih.put _ _

theorem key_int (x : Int) : WideAt.IsKeyLit (.int .i64 x) := trivial
theorem key_ne {x y : Int} (h : x ≠ y) : (Lit.int .i64 x) ≠ (Lit.int .i64 y) := fun e => h (by injection e)
theorem same_int (x y : Int) : (Lit.int .i64 x).sameKey (.int .i64 y) = decide (x = y) := by
  by_cases h : x = y
  · subst h; simp [Lit.sameKey]
  · rw [sameKey_ne (key_ne h)]; simp [h]

theorem has_Dm (m : List (Int × Int)) (x : Int) : Maps.has (Dm m) (.int .i64 x) = decide (x ∈ ids m) := by
  induction m using snoc_ind with
  | h0 => rfl
  | h1 l p ih =>
    rw [Dm_snoc, ids_snoc]
    by_cases h : x = p.1
    · subst h
      rw [has_put_same (isMap_Dm l) (key_int _)]
      simp
    · rw [has_put_other (key_ne h), ih]
      simp [h]

theorem atKey_Dm (m : List (Int × Int)) (x : Int) (h : x ∈ ids m) (zd : DataW Unit) : (Dm m).atKey (.int .i64 x) zd = .lit (.int .i64 (upto m x)) := by
  induction m using snoc_ind with
  | h0 => simp [ids] at h
  | h1 l p ih =>
    rw [Dm_snoc, upto_snoc]
    by_cases e : x = p.1
    · subst e
      rw [atKey_put_same (isMap_Dm l) (key_int _)]
      simp
    · rw [atKey_put_other (key_ne e), if_neg (fun h => e h.symm)]
      refine ih ?_
      rw [ids_snoc] at h
      rcases List.mem_append.1 h with h | h
      · exact h
      · simp at h; exact absurd h e

theorem size_Dm (m : List (Int × Int)) : Maps.size (Dm m) ≤ m.length ∧ Tidy (Dm m) := by
  induction m using snoc_ind with
  | h0 => exact ⟨Nat.zero_le _, tidy_empty⟩
  | h1 l p ih =>
    rw [Dm_snoc]
    refine ⟨?_, ih.2.put (key_int _) _⟩
    rw [size_put ih.2, List.length_append]
    split
    · have := ih.1; simp; omega
    · have := ih.1; simp; omega

/-! ### The greatest -/
/-- b is the greatest index with a quorum among those for whom 'done' says so. -/
def Best (Qm : List Int → Bool) (m : List (Int × Int)) (done : Int → Bool) (b : Int) : Prop :=
  0 ≤ b ∧ (b = 0 ∨ ∃ x, x ∈ ids m ∧ done x = true ∧ Qm (yes m (upto m x)) = true ∧ b = upto m x) ∧ ∀ x, x ∈ ids m → done x = true → Qm (yes m (upto m x)) = true → upto m x ≤ b

theorem Best.start (Qm : List Int → Bool) (m : List (Int × Int)) (done : Int → Bool) (h : ∀ x ∈ ids m, done x = false) : Best Qm m done 0 :=
  ⟨Int.le_refl _, .inl rfl, fun x hx hd => by rw [h x hx] at hd; cases hd⟩

theorem Best.step {Qm : List Int → Bool} {m : List (Int × Int)} {done : Int → Bool} {b x : Int} (h : Best Qm m done b) (hx : x ∈ ids m) (hq : Qm (yes m (upto m x)) = true) :
    Best Qm m (fun z => done z || decide (z = x)) (max b (upto m x)) := by
  refine ⟨by have := h.1; omega, ?_, ?_⟩
  · by_cases e : upto m x ≤ b
    · rw [show max b (upto m x) = b by omega]
      rcases h.2.1 with h0 | ⟨y, hy, hd, hqy, hb⟩
      · exact .inl h0
      · exact .inr ⟨y, hy, by simp [hd], hqy, hb⟩
    · exact .inr ⟨x, hx, by simp, hq, by omega⟩
  · intro y hy hd hqy
    by_cases e : y = x
    · subst e; omega
    · have := h.2.2 y hy (by simpa [e] using hd) hqy
      omega

theorem Best.skip {Qm : List Int → Bool} {m : List (Int × Int)} {done : Int → Bool} {b x : Int} (h : Best Qm m done b) (hq : Qm (yes m (upto m x)) = false) :
    Best Qm m (fun z => done z || decide (z = x)) b := by
  refine ⟨h.1, ?_, ?_⟩
  · rcases h.2.1 with h0 | ⟨y, hy, hd, hqy, hb⟩
    · exact .inl h0
    · exact .inr ⟨y, hy, by simp [hd], hqy, hb⟩
  · intro y hy hd hqy
    by_cases e : y = x
    · subst e; rw [hq] at hqy; cases hqy
    · exact h.2.2 y hy (by simpa [e] using hd) hqy

theorem Best.one {Qm : List Int → Bool} {m : List (Int × Int)} {d d' : Int → Bool} {b b' : Int} (h : Best Qm m d b) (h' : Best Qm m d' b') (hd : ∀ x ∈ ids m, d x = d' x) : b = b' := by
  have key : ∀ {d d' : Int → Bool} {b b' : Int}, Best Qm m d b → Best Qm m d' b' → (∀ x ∈ ids m, d x = d' x) → b ≤ b' := by
    intro d d' b b' h h' hd
    rcases h.2.1 with h0 | ⟨y, hy, hdy, hqy, hb⟩
    · have := h'.1; omega
    · have := h'.2.2 y hy (by rw [← hd y hy]; exact hdy) hqy; omega
  have h1 := key h h' hd
  have h2 := key h' h (fun x hx => (hd x hx).symm)
  omega

/-- What Reach answers. -/
def reach (Qm : List Int → Bool) (m : List (Int × Int)) : Int := (ids m).foldl (fun b x => if Qm (yes m (upto m x)) = true then max b (upto m x) else b) 0

theorem best_fold (Qm : List Int → Bool) (m : List (Int × Int)) : ∀ (l : List Int) (done : Int → Bool) (b : Int), (∀ x ∈ l, x ∈ ids m) → Best Qm m done b →
    Best Qm m (fun z => done z || decide (z ∈ l)) (l.foldl (fun b x => if Qm (yes m (upto m x)) = true then max b (upto m x) else b) b) := by
  intro l
  induction l with
  | nil => intro done b _ h; simpa using h
  | cons x l ih =>
    intro done b hl h
    have hx : Best Qm m (fun z => done z || decide (z = x)) (if Qm (yes m (upto m x)) = true then max b (upto m x) else b) := by
      by_cases hq : Qm (yes m (upto m x)) = true
      · rw [if_pos hq]; exact h.step (hl x (by simp)) hq
      · rw [if_neg hq]; exact h.skip (by simpa using hq)
    have := ih _ _ (fun y hy => hl y (by simp [hy])) hx
    rw [List.foldl_cons]
    have e : (fun z => (done z || decide (z = x)) || decide (z ∈ l)) = fun z => done z || decide (z ∈ x :: l) := by
      funext z
      by_cases h1 : z = x <;> simp [h1]
    rw [e] at this
    exact this

theorem best_reach (Qm : List Int → Bool) (m : List (Int × Int)) : Best Qm m (fun _ => true) (reach Qm m) := by
  have := best_fold Qm m (ids m) (fun _ => false) 0 (fun _ h => h) (Best.start Qm m _ (fun _ _ => rfl))
  refine ⟨this.1, ?_, fun x hx _ hq => this.2.2 x hx (by simp [hx]) hq⟩
  rcases this.2.1 with h0 | ⟨y, hy, _, hqy, hb⟩
  · exact .inl h0
  · exact .inr ⟨y, hy, rfl, hqy, hb⟩

theorem done_step (left : Lit → Bool) (x z : Int) : (!(left (.int .i64 z) && !(Lit.int .i64 z).sameKey (.int .i64 x))) = (!left (.int .i64 z) || decide (z = x)) := by
  rw [same_int]
  cases left (.int .i64 z) <;> by_cases h : z = x <;> simp [h]

theorem mem_yes (m : List (Int × Int)) (t : Int) (j : Int) : j ∈ yes m t ↔ j ∈ ids m ∧ t ≤ upto m j := by
  unfold yes
  rw [List.mem_filter, decide_eq_true_eq]

/-! ### The walk -/
theorem grown_of {W W' : World} (h : Below W.heap.size W W') : W.grownBy W' none := ⟨h.os, h.tape, h.output, h.size, fun i hi _ => h.block i hi⟩
/-- The marks' cells. -/
def Marks (w : World) (A : Option Addr) (m : List (Int × Int)) : Prop := ∀ (i : Nat) (h : i < m.length), ∃ ad, A = some ad ∧ w.cell? (ad.add (i * 2)) = some (.int .i64 (m[i]).1) ∧ w.cell? ⟨(ad.add (i * 2)).block, (ad.add (i * 2)).off + 1, none⟩ = some (.int .i64 (m[i]).2)

theorem Marks.below {w W : World} {A : Option Addr} {m : List (Int × Int)} (h : Marks w A m) (hb : Below w.heap.size w W) : Marks W A m := fun i hi => by
  obtain ⟨ad, e, h1, h2⟩ := h i hi
  exact ⟨ad, e, (hb.cell (World.block_lt_of_cell? w _ h1)).trans h1, (hb.cell (World.block_lt_of_cell? w _ h2)).trans h2⟩

theorem law3 : Keyed Try.prog 3 := int_keyed Try.underlying3
theorem info3 : (Try.prog.info? 3).map (fun i => (i.zero, i.size, i.bytes)) = some (some (.int .i64 0), 1, 8) := by kernel_rfl

set_option maxHeartbeats 4000000 in
set_option maxRecDepth 100000 in
theorem walk (A0 : Option Addr) (c0 : Nat) (l0 : List Int) (A1 : Option Addr) (c1 : Nat) (l1 : List Int) (A2 : Option Addr) (c2 : Nat) (m : List (Int × Int)) (w : World) (Qm : List Int → Bool)
    (hQ : ∀ (W : World) (ys : List Int) (A : Option Addr) (c : Nat), Kd.C (Kd.int .i64) W A0 l0.length l0 → Kd.C (Kd.int .i64) W A1 l1.length l1 → Kd.C (Kd.int .i64) W A ys.length ys → ys.length ≤ c → ys.length < 1000000 →
      Calls Try.prog 56 #[.agg #[.slice A0 l0.length c0, .slice A1 l1.length c1], .slice A ys.length c] W fun e w' => e = .returned (.bool (Qm ys)) ∧ Below W.heap.size W w')
    (hP : ∀ ys ys' : List Int, (∀ x, x ∈ ys ↔ x ∈ ys') → Qm ys = Qm ys')
    (h0 : Kd.C (Kd.int .i64) w A0 l0.length l0) (h1 : Kd.C (Kd.int .i64) w A1 l1.length l1) (h2 : Marks w A2 m) (hm : m.length < 1000000) (hwf : ∀ p ∈ m, (Lit.int .i64 p.1).wf = true ∧ (Lit.int .i64 p.2).wf = true) :
    Calls Try.prog 17 #[.agg #[.slice A0 l0.length c0, .slice A1 l1.length c1], .slice A2 m.length c2] w fun e w' => e = .returned (.int .i64 (reach Qm m)) ∧ Below w.heap.size w w' := by
  have hu26 := Try.underlying26
  have hu29 := Try.underlying29
  have hmm := @run_makeMap Try.prog
  have HQ := Aside0.mk hQ
  have HP := Aside0.mk hP
  have H0 := Aside0.mk h0
  have H1 := Aside0.mk h1
  have H2 := Aside0.mk h2
  have HW := Aside0.mk hwf
  have HL := Aside0.mk hm
  clear hQ hP h0 h1 h2 hwf hm
  go_enter Try.func17, Try.ntmps17
  go_wp2
  go_loopw [17] (fun v17 wr => ∃ k : Nat, k ≤ m.length ∧ v17 = .int .i64 k ∧ Aside0 (wr.ownsMap Try.prog 3 (plainElem (H := Unit) Try.prog 3) (w.heap.size + 1) k (Dm (m.take k))) ∧ Aside0 (Below w.heap.size w wr) ∧ Aside0 (wr.heap[w.heap.size]? = some (.cells #[.slice A0 l0.length c0, .slice A1 l1.length c1] 26 (0, 0))))
    (fun v17 _ => m.length - (intOf v17).toNat)
  case atStart =>
    refine ⟨0, Nat.zero_le _, rfl, ⟨?_⟩, ⟨by repeat (first | exact Below.refl _ _ | apply below_alloc | apply pw_below_drewN | apply below_drew1)⟩, ⟨blk_alloc (blk_new w _) _⟩⟩
    have h := World.ownsMap_made (H := Unit) (w.alloc (.cells #[.slice A0 l0.length c0, .slice A1 l1.length c1] 26)) Try.prog 3 (plainElem Try.prog 3)
    rw [show (w.alloc (.cells #[.slice A0 l0.length c0, .slice A1 l1.length c1] 26)).heap.size = w.heap.size + 1 by simp] at h
    exact h
  case round =>
    obtain ⟨k, hk, rfl, HO, HB, BK⟩ := hrel
    by_cases hlt : k < m.length
    · obtain ⟨ad, e2, hx0, hx1⟩ := (H2.out.below HB.out) k hlt
      subst e2
      have hwk := HW.out (m[k]) (List.getElem_mem hlt)
      have htk : m.take (k + 1) = m.take k ++ [m[k]] := List.take_succ_eq_append_getElem hlt
      obtain ⟨x, hxk⟩ : ∃ x, (m[k]).1 = x := ⟨_, rfl⟩
      obtain ⟨y, hyk⟩ : ∃ y, (m[k]).2 = y := ⟨_, rfl⟩
      have hD : Dm (m.take (k + 1)) = (Dm (m.take k)).put (.int .i64 x) (.lit (.int .i64 y)) := by rw [htk, Dm_snoc, hxk, hyk]
      rw [hxk] at hx0 hwk
      rw [hyk] at hx1 hwk
      have hq := eq_true (show (k : Int) < (m.length : Int) by omega)
      have hq0 := eq_true (show 0 ≤ (k : Int) by omega)
      have HD := Aside0.mk hD
      have HWK := Aside0.mk hwk
      clear hD hwk htk hxk hyk
      go_wp2_with (first
        | (at_mapUpdate; refine wpList_mapUpdate_own _ rfl _ _ _ 91 rfl 3 3 law3 Try.underlying91 _ (w.heap.size + 1) k _ rfl (by repeat (first | exact HO.out | apply World.ownsMap.alloc | apply World.ownsMap.drew)) (by unfold maxLen; have := HL.out; omega) _ _ _ rfl rfl (keyOf_int_mk Try.underlying3 HWK.out.1) _ [] (plainElem_int Try.underlying3 HWK.out.2) ?_; intro w1 hown1 hg1)
        | go_in)
      go_roundw
      case rel =>
        refine ⟨k + 1, hlt, ?_, ⟨?_⟩, ⟨?_⟩, ⟨?_⟩⟩
        · rw [show wrap64 ((k : Int) + 1) = ((k + 1 : Nat) : Int) by unfold wrap64; have := HL.out; omega]
        · rw [HD.out]; exact hown1
        · exact (below_alloc HB.out _).grown hg1 (by have := HB.out.size; simp; omega) (fun j hj => by cases hj; omega)
        · exact blk_grown (blk_alloc BK.out _) hg1 (by simp)
      case measure =>
        rw [show wrap64 ((k : Int) + 1) = ((k + 1 : Nat) : Int) by unfold wrap64; have := HL.out; omega]
        simp only [intOf, Int.toNat_natCast]
        omega
    · have hq := eq_false (show ¬ (k : Int) < (m.length : Int) by omega)
      have hkl : k = m.length := by omega
      subst hkl
      rw [List.take_length] at HO
      clear hq hlt hk H2
      go_wp2_with (first
        | (at_range; refine wpList_range_own _ rfl _ 91 rfl 3 3 law3 Try.underlying91 _ (w.heap.size + 1) m.length _ rfl HO.out ?_; intro w0 hrg0 hg0 hs0)
        | go_in)
      go_frame
      obtain ⟨r, hr⟩ : ∃ r, wr.heap.size = r := ⟨_, rfl⟩
      rw [hr] at hrg0 ⊢
      have HR0 := Aside0.mk hrg0
      have HB0 := Aside0.mk (HB.out.grown hg0 HB.out.size (fun j hj => by cases hj))
      have BK0 := Aside0.mk (blk_grown BK.out hg0 (by simp))
      have RN := Aside0.mk (show w.heap.size < r by rw [← hr]; have := blk_lt BK.out; exact this)
      clear hrg0 hg0 hs0 HO HB BK hr
      go_loopw [8] (fun v8 wr => ∃ (b : Int) (left : Lit → Bool) (cnt : Nat), v8 = .int .i64 b ∧ Aside0 (wr.ranges Try.prog 3 (plainElem (H := Unit) Try.prog 3) (w.heap.size + 1) r m.length (Dm m) left cnt) ∧ Aside0 (∀ x, left (.int .i64 x) = true → x ∈ ids m) ∧ Aside0 (Best Qm m (fun x => !left (.int .i64 x)) b) ∧
          Aside0 (Below w.heap.size w wr) ∧ Aside0 (wr.heap[w.heap.size]? = some (.cells #[.slice A0 l0.length c0, .slice A1 l1.length c1] 26 (0, 0))))
        (fun _ wr => wr.rangeLeft (w.heap.size + 1) r)
      case atStart =>
        refine ⟨0, _, _, rfl, ⟨HR0.out⟩, ⟨fun x hx => by rw [has_Dm] at hx; simpa using hx⟩, ⟨Best.start _ _ _ (fun x hx => by rw [has_Dm]; simp [hx])⟩, ⟨HB0.out⟩, ⟨BK0.out⟩⟩
      case round =>
        rename_i w9 v9
        obtain ⟨b, left, cnt, rfl, HR, HS, HT, HB, BK⟩ := hrel
        go_wp2_with (first
          | (at_next; refine wpList_next_ranges_ii _ rfl _ rfl 3 3 .i64 .i64 law3 Try.underlying3 Try.underlying3 (w.heap.size + 1) r m.length _ _ _ rfl HR.out ?_ ?_)
          | go_in)
        · intro hc0 hl0
          go_wp2
          go_ret
          refine ⟨?_, HB.out⟩
          rw [HT.out.one (best_reach Qm m) (fun x _ => by rw [hl0]; rfl)]
          rfl
        · intro x c w1 cnt1 hwx hwc hlx hat hrg1 hlt hg1 hs1 hen
          have hxm := HS.out x hlx
          have hcx : c = upto m x := by
            have e := (hat (.lit (.int .i64 0))).symm.trans (atKey_Dm m x hxm _)
            injection e with e
            injection e
          subst hcx
          have HR1 := Aside0.mk hrg1
          have HB1 := Aside0.mk (HB.out.grown hg1 HB.out.size (fun j hj => by cases hj; exact Nat.le_of_lt RN.out))
          have BK1 := Aside0.mk (blk_grown BK.out hg1 (fun e => by have := RN.out; injection e with e; omega))
          have HC1 := Aside0.mk hlt
          have HXM := Aside0.mk hxm
          have hrl := hrg1.lt
          have hrw := HR.out.left_eq
          have HLE := Aside0.mk hrw
          clear hrw HB BK hg1 hs1 hlt hwx hwc hat hrg1 hxm HR
          obtain ⟨t, ht⟩ : ∃ t, upto m x = t := ⟨_, rfl⟩
          rw [ht] at hen ⊢
          have HTX := Aside0.mk ht
          clear ht
          go_wp2_with (first
            | (at_range; refine wpList_range_own _ rfl _ 91 rfl 3 3 law3 Try.underlying91 _ (w.heap.size + 1) m.length _ rfl HR1.out.owns ?_; intro w2 hrg2 hg2 hs2)
            | go_in)
          go_frame
          have HR2 := Aside0.mk (HR1.out.kept hg2 (by simp) (by simp))
          have HB2 := Aside0.mk (HB1.out.grown hg2 HB1.out.size (fun j hj => by cases hj))
          have BK2 := Aside0.mk (blk_grown BK1.out hg2 (by simp))
          obtain ⟨r2, hr2⟩ : ∃ r2, w1.heap.size = r2 := ⟨_, rfl⟩
          rw [hr2] at hrg2 hrl ⊢
          have RN2 := Aside0.mk hrl
          have HI2 := Aside0.mk hrg2
          have hw2 : w2.heap.size = r2 + 1 := by rw [hs2, hr2]
          clear hrg2 hg2 hs2 HR1 HB1 BK1 hrl hr2 hen
          go_loopw [11] (fun v11 wr => ∃ (ys : List Int) (left2 : Lit → Bool) (cnt2 : Nat), Aside0 (Kd.R (Kd.int .i64) 3 wr w.heap.size (fun k => k ≠ w.heap.size ∧ k ≠ w.heap.size + 1 ∧ k ≠ r ∧ k ≠ r2) v11 ys) ∧
              Aside0 (wr.ranges Try.prog 3 (plainElem (H := Unit) Try.prog 3) (w.heap.size + 1) r2 m.length (Dm m) left2 cnt2) ∧ Aside0 (∀ x, left2 (.int .i64 x) = true → x ∈ ids m) ∧
              Aside0 (∀ j, j ∈ ys ↔ j ∈ ids m ∧ left2 (.int .i64 j) = false ∧ t ≤ upto m j) ∧ Aside0 (ys.length + cnt2 ≤ m.length) ∧
              Aside0 (wr.ranges Try.prog 3 (plainElem (H := Unit) Try.prog 3) (w.heap.size + 1) r m.length (Dm m) (fun z => left z && !z.sameKey (.int .i64 x)) cnt1) ∧
              Aside0 (Below w.heap.size w wr) ∧ Aside0 (wr.heap[w.heap.size]? = some (.cells #[.slice A0 l0.length c0, .slice A1 l1.length c1] 26 (0, 0))) ∧ Aside0 (r2 < wr.heap.size))
            (fun _ wr => wr.rangeLeft (w.heap.size + 1) r2)
          case atStart =>
            refine ⟨[], _, _, ⟨Kd.R_nil _ _ _ _ _⟩, ⟨HI2.out⟩, ⟨fun x hx => by rw [has_Dm] at hx; simpa using hx⟩, ⟨fun j => by rw [has_Dm]; exact Iff.intro (fun h => (List.not_mem_nil h).elim) (fun h => by have h1 := h.1; have h2 := h.2.1; simp [h1] at h2)⟩, ⟨by have := (size_Dm m).1; simpa using this⟩, ⟨HR2.out⟩, ⟨HB2.out⟩, ⟨BK2.out⟩, ⟨by omega⟩⟩
          case round =>
            obtain ⟨ys, left2, cnt2, HO, HI, HS2, HY, HN, HR, HB, BK, HZ⟩ := hrel
            go_wp2_with (first
              | (at_next; refine wpList_next_ranges_ii _ rfl _ rfl 3 3 .i64 .i64 law3 Try.underlying3 Try.underlying3 (w.heap.size + 1) r2 m.length _ _ _ rfl HI.out ?_ ?_)
              | go_in)
            · intro hc0 hl0
              have hqm : Qm ys = Qm (yes m t) := HP.out _ _ (fun j => by rw [HY.out j, mem_yes, hl0]; simp)
              obtain ⟨A, c, e⟩ := Kd.R_slice HO.out
              subst e
              have hq0 : wr.cell? ⟨w.heap.size, 0, none⟩ = some (.slice A0 l0.length c0) := (blk_cell BK.out 0).trans rfl
              have hq1 : wr.cell? ⟨w.heap.size, 1, none⟩ = some (.slice A1 l1.length c1) := (blk_cell BK.out 1).trans rfl
              have hrd := Kd.R_reads' HO.out
              have hcall := HQ.out wr ys A c (Kd.C_below H0.out HB.out) (Kd.C_below H1.out HB.out) hrd.2.2 hrd.2.1 (by have := HN.out; have := HL.out; omega)
              rw [hqm] at hcall
              clear hrd HO HY HS2 HI hl0 hc0 HN hqm
              cases hv : Qm (yes m t)
              · rw [hv] at hcall
                have HCA := Aside0.mk hcall
                clear hcall
                go_wp2_with (first
                  | (go_at_call 56; refine HCA.out.mono ?_; rintro e w4 ⟨rfl, hb4⟩)
                  | go_in)
                go_roundw
                case rel =>
                  have hg4 := grown_of hb4
                  refine ⟨b, _, cnt1, rfl, ⟨HR.out.kept hg4 (by simp) (by simp)⟩, ⟨fun z hz => HS.out z (by simp at hz; exact hz.1)⟩, ⟨?_⟩, ⟨HB.out.grown hg4 HB.out.size (fun j hj => by cases hj)⟩, ⟨blk_grown BK.out hg4 (by simp)⟩⟩
                  have := HT.out.skip (x := x) (by rw [HTX.out]; exact hv)
                  simpa only [done_step] using this
                case measure =>
                  rw [(HR.out.kept (grown_of hb4) (by simp) (by simp)).left_eq, HLE.out]
                  exact HC1.out
              · rw [hv] at hcall
                have HCA := Aside0.mk hcall
                clear hcall
                go_wp2_with (first
                  | (go_at_call 56; refine HCA.out.mono ?_; rintro e w4 ⟨rfl, hb4⟩)
                  | go_in)
                go_roundw
                case rel =>
                  have hg4 := grown_of hb4
                  refine ⟨max b t, _, cnt1, ?_, ⟨HR.out.kept hg4 (by simp) (by simp)⟩, ⟨fun z hz => HS.out z (by simp at hz; exact hz.1)⟩, ⟨?_⟩, ⟨HB.out.grown hg4 HB.out.size (fun j hj => by cases hj)⟩, ⟨blk_grown BK.out hg4 (by simp)⟩⟩
                  · exact congrArg (Value.int .i64) (by split <;> omega)
                  · have := HT.out.step (x := x) HXM.out (by rw [HTX.out]; exact hv)
                    rw [HTX.out] at this
                    simpa only [done_step] using this
                case measure =>
                  rw [(HR.out.kept (grown_of hb4) (by simp) (by simp)).left_eq, HLE.out]
                  exact HC1.out
            · intro x2 c3 w3 cnt3 hwx hwc hlx hat hrg3 hlt3 hg3 hs3 hen3
              have hxm2 := HS2.out x2 hlx
              have hcx2 : c3 = upto m x2 := by
                have e := (hat (.lit (.int .i64 0))).symm.trans (atKey_Dm m x2 hxm2 _)
                injection e with e
                injection e
              have HO3 := Aside0.mk (Kd.R_grown HO.out hg3 (fun k hk e => hk.2.2.2 (by injection e)))
              have HR3 := Aside0.mk (HR.out.kept hg3 (fun e => by injection e with e; have := RN.out; have := RN2.out; have := HR.out.ne; have := HI.out.ne; omega) (fun e => by injection e with e; have := RN2.out; omega))
              have HB3 := Aside0.mk (HB.out.grown hg3 HB.out.size (fun j hj => by cases hj; have := RN.out; have := RN2.out; omega))
              have BK3 := Aside0.mk (blk_grown BK.out hg3 (fun e => by injection e with e; have := RN.out; have := RN2.out; omega))
              have HI3 := Aside0.mk hrg3
              have HZ3 := Aside0.mk (show r2 < w3.heap.size by rw [hs3]; exact HZ.out)
              have hle2 := HI.out.left_eq
              have HLE2 := Aside0.mk hle2
              have HLX := Aside0.mk hlx
              have HXM2 := Aside0.mk hxm2
              have HC3 := Aside0.mk hlt3
              have HM1 := Aside0.mk (HI.out.ne)
              clear hle2 HO HI HR HB BK hrg3 hg3 hs3 HZ hat hlx hxm2 hwx hwc hlt3
              by_cases hge : t ≤ c3
              · have hq := eq_true (show c3 ≥ t from hge)
                subst hcx2
                go_wp2_with (first
                  | ((with_reducible refine gate_builtin (b := .append) (xs := #[.tmp 43, .tmp 45]) rfl ?_); at_builtin; refine Kd.R_append (Kd.int .i64) (w0 := w) w.heap.size rfl (.tmp 43) (.tmp 45) 24 3 (.int .i64 0) 8 rfl Try.underlying24 info3 rfl (by decide) (by omega) u11 ys x2 [.int .i64 x2] (fun k => k ≠ w.heap.size ∧ k ≠ w.heap.size + 1 ∧ k ≠ r ∧ k ≠ r2) (fun _ => False) rfl rfl rfl (fun _ hk => hk.elim) ?aF HO3.out HB3.out ?aS ?aL ?_; (case aF => intro k hk; have := RN.out; have := RN2.out; have := HZ3.out; omega); (case aS => exact HB3.out.size); (case aL => have := HN.out; have := HL.out; omega); intro v5 w5 ho5 hb5 hg5 hat5)
                  | go_in)
                have HO5 := Aside0.mk ho5
                have hn5 : ∀ k, k < w3.heap.size → (k = w.heap.size ∨ k = w.heap.size + 1 ∨ k = r ∨ k = r2) → some k ≠ (u11 : Value).ownBlock := fun k _ hk e => by
                  have := HO3.out.1 k e.symm
                  omega
                have hm1 := HI3.out.owns.lt
                have hm2 := HR3.out.lt
                have hI5 := HI3.out.kept hg5 (hn5 _ hm1 (by omega)) (hn5 _ HZ3.out (by omega))
                go_roundw
                case rel =>
                  refine ⟨ys ++ [x2], _, cnt3, HO5, ⟨hI5⟩, ⟨fun z hz => HS2.out z (by simp at hz; exact hz.1)⟩, ⟨fun j => ?_⟩, ⟨by have := HN.out; have := HC3.out; simp; omega⟩, ⟨HR3.out.kept hg5 (hn5 _ hm1 (by omega)) (hn5 _ hm2 (by omega))⟩, ⟨hb5⟩,
                    ⟨blk_grown BK3.out hg5 (hn5 _ (blk_lt BK3.out) (by omega))⟩, ⟨Nat.lt_of_lt_of_le HZ3.out hg5.size⟩⟩
                  rw [List.mem_append, HY.out j, same_int]
                  by_cases e : j = x2
                  · subst e; simp [HXM2.out, hge]
                  · simp [e]
                case measure =>
                  rw [hI5.left_eq, HLE2.out]
                  exact HC3.out
              · have hq := eq_false (show ¬ c3 ≥ t from hge)
                go_wp2
                go_roundw
                case rel =>
                  refine ⟨ys, _, cnt3, HO3, HI3, ⟨fun z hz => HS2.out z (by simp at hz; exact hz.1)⟩, ⟨fun j => ?_⟩, ⟨by have := HN.out; have := HC3.out; omega⟩, HR3, HB3, BK3, HZ3⟩
                  rw [HY.out j, same_int]
                  by_cases e : j = x2
                  · subst e
                    have h1 := HLX.out
                    simp [h1]
                    intro _
                    omega
                  · simp [e]
                case measure =>
                  rw [HI3.out.left_eq, HLE2.out]
                  exact HC3.out

end Go.Proofs.Ytbomomaidglegaa.Reach
