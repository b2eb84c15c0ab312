/- conf.Members, by hand: the members of both lists, sorted, each once. slices.Sort and slices.Compact by the shelf's contracts. -/
import Derived.Test.YtbomomaidglegaaWMore
import Derived.Test.YtbomomaidglegaaProg
import Derived.Lib.OwnBridge
import Derived.Lib.SlicesCompact
import Derived.Sort.OwnSortedInts
import Derived.Sort.Grow
import Derived.Deep.LoopGhost
import Derived.WalkSpells
namespace Go.Proofs.Ytbomomaidglegaa.Mem
open Go Go.RowKit Go.Sort Go.Proofs.YtbomomaidglegaaW.PrintWords Go.Proofs.YtbomomaidglegaaW.PrintLast Go.Proofs.YtbomomaidglegaaW.PrintMore
set_option linter.unusedVariables false

theorem wrap_sum (a b : Nat) (h : a + b < 1000000) : wrap64 ((a : Int) + b) = ((a + b : Nat) : Int) := by unfold wrap64; omega

/-- 'make([]int, n, m)': n noughts in a block of m. -/
theorem make_room {P : Program} {ops : Array Oper} {rest : List Oper} {o : Oper} {a : Act} {Q : Exit → Act → World → Prop} {w0 W : World} (base : Nat) (hgd : o.guard = none)
    (t e : TypeId) (x y : Operand) (ho : o.op = .makeSlice t x y) (n m : Nat) (nI mI : Int) (hx : a.eval x = .int .i64 nI) (hy : a.eval y = .int .i64 mI) (hn : nI = n) (hm : mI = m) (hnm : n ≤ m) (hm2 : m < 1000000)
    (ht : P.underlying t = some (.slice e)) (hinfo : (P.info? e).map (fun i => (i.zero, i.size, i.bytes)) = some (some (.int .i64 0), 1, 8)) (HB : Below base w0 W) (hbase : base ≤ W.heap.size)
    (h : ∀ g w1, W.heap.size = g → (Kd.int .i64).R e w1 base (fun _ => True) (.slice (some ⟨g, 0, none⟩) n m) (List.replicate n (0 : Int)) → Below base w0 w1 → W.grownBy w1 none →
      wpList P ops Q rest (a.put o.dst (.slice (some ⟨g, 0, none⟩) n m)) w1) : wpList P ops Q (o :: rest) a W := by
  obtain ⟨i0, hi, hzz⟩ := Option.map_eq_some_iff.1 hinfo
  simp only [Prod.mk.injEq] at hzz
  obtain ⟨hz0, hz1, hz2⟩ := hzz
  subst hn; subst hm
  have hr := run_make (P := P) W t e i0 (.int .i64 0) ht hi hz0 .i64 .i64 (n : Int) (m : Int) (by omega) (by omega) (by rw [hz2]; omega) (by omega)
  simp only [Int.toNat_natCast] at hr
  rw [hz1, Nat.mul_one] at hr
  have hg := World.grownBy_alloc W (.cells (madeCells (Value.int .i64 0).cells m) e) none
  have hrow : (Kd.int .i64).R e (W.alloc (.cells (madeCells (Value.int .i64 0).cells m) e)) base (fun _ => True) (.slice (some ⟨W.heap.size, 0, none⟩) n m) (List.replicate n (0 : Int)) := by
    refine Kd.R_of_own ?_ (fun _ _ => trivial)
    refine ⟨by simp [encs], .inr ⟨W.heap.size, m, _, by simp, hbase, heap_alloc_new W _, by simpa using hnm, by unfold maxLen; omega, by simp [size_madeCells], ?_⟩⟩
    apply List.ext_getElem?
    intro j
    by_cases hj : j < n
    · have hjm : j < m := by omega
      rw [List.getElem?_take_of_lt (by simpa using hj), Array.getElem?_toList]
      simp [madeCells, encs, hj, hjm, Value.cells, Nat.mod_one]
    · rw [List.getElem?_eq_none (by simp; omega), List.getElem?_eq_none (by simp [encs]; omega)]
  refine wpList_plain hgd fun K hK => ?_
  unfold Oper.wp
  simp [execOp, ho, hx, hy, hr, Result.andThen]
  exact hK _ _ (h _ _ rfl hrow (HB.alloc hbase _) hg)

theorem not_nil {w : World} {base e : Nat} {v : Value} {n : Nat} {xs : List Value} (h : w.ownsRow base e 1 v n xs) (hp : 0 < n) : v ≠ .slice none 0 0 := by
  rintro rfl
  rcases h.2 with ⟨_, h0⟩ | ⟨_, _, _, he, _⟩
  · omega
  · cases he

/-- Behind the sort and the cut: the row. -/
theorem left_of {w w1 : World} {e g cap nn q : Nat} {os : Array Obj} {ss : List Int} (hown : w1.ownsRow w.heap.size e 1 (.slice (some ⟨g, 0, none⟩) ss.length cap) ss.length (ss.map (Value.int .i64))) (hbel : Below w.heap.size w w1) (hbg : w.heap.size ≤ g) :
    (putRow (Value.int .i64) (Sort.ahead (grow (putRow (Value.int .i64) (Sort.ahead w1 nn) g 0 (ss.mergeSort fun x y => decide (x ≤ y)).toArray) os) q) g 0 (Lib.compact (ss.mergeSort fun x y => decide (x ≤ y)) ++ List.replicate (ss.length - (Lib.compact (ss.mergeSort fun x y => decide (x ≤ y))).length) 0).toArray).ownsRow w.heap.size e 1
        (.slice (some ⟨g, 0, none⟩) (Lib.compact (ss.mergeSort fun x y => decide (x ≤ y))).length cap) (Lib.compact (ss.mergeSort fun x y => decide (x ≤ y))).length ((Lib.compact (ss.mergeSort fun x y => decide (x ≤ y))).map (Value.int .i64)) ∧
    Below w.heap.size w (putRow (Value.int .i64) (Sort.ahead (grow (putRow (Value.int .i64) (Sort.ahead w1 nn) g 0 (ss.mergeSort fun x y => decide (x ≤ y)).toArray) os) q) g 0 (Lib.compact (ss.mergeSort fun x y => decide (x ≤ y)) ++ List.replicate (ss.length - (Lib.compact (ss.mergeSort fun x y => decide (x ≤ y))).length) 0).toArray) := by
  have hl2 : (ss.mergeSort fun x y => decide (x ≤ y)).length = ss.length := List.length_mergeSort ss
  have hle := Lib.compact_length_le (ss.mergeSort fun x y => decide (x ≤ y))
  rcases hown.2 with ⟨h0, _⟩ | ⟨g', cap', cur, hv, hbase, hb, h1, h2, h3, h4⟩
  · cases h0
  cases hv
  have hs := ownsRow_sortedI (n := nn) (os := os) (ts := ss.mergeSort fun x y => decide (x ≤ y)) hl2 hbase hb h1 h2 h3
  have hc := Lib.ownsRow_putRow (q := q) (k := (Lib.compact (ss.mergeSort fun x y => decide (x ≤ y))).length) (ys := Lib.compact (ss.mergeSort fun x y => decide (x ≤ y)) ++ List.replicate (ss.length - (Lib.compact (ss.mergeSort fun x y => decide (x ≤ y))).length) 0) hs (by simp; omega) (by omega)
  rw [List.take_left] at hc
  exact ⟨hc, Lib.below_putRow (hbel.grown (grownBy_sortedI _) hbel.size (fun j hj => by cases hj; exact hbase)) hbg⟩

theorem holds_sorted {w3 w4 : World} {g nn : Nat} {os : Array Obj} {zs : List Int} (hH : Holds (Value.int .i64) w3 g 0 zs.toArray) (hl : g < w3.heap.size)
    (hw : w4 = grow (putRow (Value.int .i64) (Sort.ahead w3 nn) g 0 (zs.mergeSort fun x y => decide (x ≤ y)).toArray) os) : Holds (Value.int .i64) w4 g 0 (zs.mergeSort fun x y => decide (x ≤ y)).toArray := by
  subst hw
  exact holds_grow (Value.int .i64) _ os g 0 _ (by simpa [putRow, mapBlock, Sort.ahead] using hl) (holds_putRow (Value.int .i64) _ g 0 _ _ (holds_ahead (Value.int .i64) w3 nn g 0 _ hH) (by simp))

theorem compact_of {P : Program} {f g cap : Nat} {w : World} {zs : List Int}
    (hcomp : ∀ (blk off cap : Nat) (zs : List Int) (w : World), Holds (Value.int .i64) w blk off zs.toArray → zs.length ≤ 9223372036854775807 → zs.length ≤ cap →
      Calls P f #[.slice (some ⟨blk, off, none⟩) zs.length cap] w fun e w' => e = .returned (.slice (some ⟨blk, off, none⟩) (Lib.compact zs).length cap) ∧ ∃ q, w' = putRow (Value.int .i64) (Sort.ahead w q) blk off (Lib.compact zs ++ List.replicate (zs.length - (Lib.compact zs).length) 0).toArray)
    (hH : Holds (Value.int .i64) w g 0 (zs.mergeSort fun x y => decide (x ≤ y)).toArray) (h1 : zs.length ≤ 9223372036854775807) (h2 : zs.length ≤ cap) :
    Calls P f #[.slice (some ⟨g, 0, none⟩) zs.length cap] w fun e w' => e = .returned (.slice (some ⟨g, 0, none⟩) (Lib.compact (zs.mergeSort fun x y => decide (x ≤ y))).length cap) ∧ ∃ q, w' = putRow (Value.int .i64) (Sort.ahead w q) g 0 (Lib.compact (zs.mergeSort fun x y => decide (x ≤ y)) ++ List.replicate (zs.length - (Lib.compact (zs.mergeSort fun x y => decide (x ≤ y))).length) 0).toArray := by
  have h := hcomp g 0 cap (zs.mergeSort fun x y => decide (x ≤ y)) w hH (by rw [List.length_mergeSort]; exact h1) (by rw [List.length_mergeSort]; exact h2)
  rw [List.length_mergeSort] at h
  exact h

/-- The members of both lists, each once, in order. -/
def members (l0 l1 : List Int) : List Int := Lib.compact ((l0 ++ l1).mergeSort fun x y => decide (x ≤ y))

theorem info : (Try.prog.info? 3).map (fun i => (i.zero, i.size, i.bytes)) = some (some (.int .i64 0), 1, 8) := by kernel_rfl

set_option maxHeartbeats 4000000 in
set_option maxRecDepth 100000 in
theorem walk
    (hsort : ∀ (blk off cap : Nat) (zs : List Int) (w : World), Holds (Value.int .i64) w blk off zs.toArray → blk < w.heap.size → zs.length < 4611686018427387904 →
      Calls Try.prog 80 #[.slice (some ⟨blk, off, none⟩) zs.length cap] w fun e w' => e = .returned (.tuple #[]) ∧ ∃ n os, w' = grow (putRow (Value.int .i64) (Sort.ahead w n) blk off (zs.mergeSort fun x y => decide (x ≤ y)).toArray) os)
    (hcomp : ∀ (blk off cap : Nat) (zs : List Int) (w : World), Holds (Value.int .i64) w blk off zs.toArray → zs.length ≤ 9223372036854775807 → zs.length ≤ cap →
      Calls Try.prog 81 #[.slice (some ⟨blk, off, none⟩) zs.length cap] w fun e w' => e = .returned (.slice (some ⟨blk, off, none⟩) (Lib.compact zs).length cap) ∧ ∃ q, w' = putRow (Value.int .i64) (Sort.ahead w q) blk off (Lib.compact zs ++ List.replicate (zs.length - (Lib.compact zs).length) 0).toArray)
    (A0 : Option Addr) (c0 : Nat) (l0 : List Int) (A1 : Option Addr) (c1 : Nat) (l1 : List Int) (w : World) (hr0 : Kd.C (Kd.int .i64) w A0 l0.length l0) (hc0 : l0.length ≤ c0) (hr1 : Kd.C (Kd.int .i64) w A1 l1.length l1) (hc1 : l1.length ≤ c1)
    (hp : 0 < l0.length + l1.length) (hs : l0.length + l1.length < 1000000) :
    Calls Try.prog 63 #[.agg #[.slice A0 l0.length c0, .slice A1 l1.length c1]] w fun e w' => ∃ v0_ : Value, e = .returned (v0_) ∧ Kd.R (Kd.int .i64) 3 w' w.heap.size (fun _ => True) v0_ (members l0 l1) ∧ Below w.heap.size w w' := by
  have hu42 := Try.underlying26
  have HR0 := Aside0.mk hr0
  have HR1 := Aside0.mk hr1
  have HP := Aside0.mk hp
  have HS := Aside0.mk hs
  have HT := Aside0.mk hsort
  have HM := Aside0.mk hcomp
  clear hr0 hr1 hp hs hsort hcomp
  go_enter Try.func63, Try.ntmps63
  go_wp2_with (first
    | ((with_reducible refine gate_dst (N := 14) rfl ?_); refine make_room (w0 := w) w.heap.size rfl 24 3 (.tmp 6) (.tmp 13) rfl l0.length (l0.length + l1.length) _ _ rfl rfl ?hn ?hm (by omega) HS.out Try.underlying24 info ?hb ?hB ?_; (case hn => rfl); (case hm => first | exact wrap_sum _ _ HS.out | (simp only [IntKind.wrap_i64]; have := HS.out; omega)); (case hb => repeat (first | exact Below.refl _ _ | apply below_alloc | apply pw_below_drewN | apply below_drew1)); (case hB => simp); intro g w1 hgq ho hb hg; have GN := Aside0.mk (show w.heap.size ≠ g by rw [← hgq]; simp); have HO1 := Aside0.mk ho; have HB1 := Aside0.mk hb; have BK1 := Aside0.mk (blk_grown (blk_new w _) hg (by simp)); have hq1_0 : w1.cell? ⟨w.heap.size, 0, none⟩ = some (.slice A0 l0.length c0) := (blk_cell BK1.out 0).trans rfl; have hq1_1 : w1.cell? ⟨w.heap.size, 1, none⟩ = some (.slice A1 l1.length c1) := (blk_cell BK1.out 1).trans rfl; clear ho hb hg hgq)
    | ((with_reducible refine gate_builtin (b := .copy) (xs := #[.tmp 15, .tmp 17]) rfl ?_); refine Kd.R_copy (0 : Int) (w0 := w) w.heap.size rfl (.tmp 15) (.tmp 17) 24 24 3 rfl Try.underlying24 (by kernel_rfl) (.slice (some ⟨g, 0, none⟩) l0.length (l0.length + l1.length)) (List.replicate l0.length (0 : Int)) l0 A0 l0.length c0 (fun _ => True) rfl rfl HO1.out (Kd.C_below HR0.out HB1.out) HB1.out HB1.out.size ?_; intro w2 ho hb hg; rw [List.length_replicate, Nat.min_self, List.take_length, List.drop_of_length_le (by simp), List.append_nil] at ho; have HO2 := Aside0.mk ho; have HB2 := Aside0.mk hb; have BK2 := Aside0.mk (blk_grown BK1.out hg (fun h => GN.out (by injection h))); have hq2_0 : w2.cell? ⟨w.heap.size, 0, none⟩ = some (.slice A0 l0.length c0) := (blk_cell BK2.out 0).trans rfl; have hq2_1 : w2.cell? ⟨w.heap.size, 1, none⟩ = some (.slice A1 l1.length c1) := (blk_cell BK2.out 1).trans rfl; clear ho hb hg)
    | ((with_reducible refine gate_builtin (b := .append) (xs := #[.tmp 19, .tmp 21]) rfl ?_); at_builtin; refine Kd.R_append_rows (Kd.int .i64) (w0 := w) w.heap.size rfl (.tmp 19) (.tmp 21) 24 3 (.int .i64 0) 8 rfl Try.underlying24 info rfl (by decide) (by omega) (.slice (some ⟨g, 0, none⟩) l0.length (l0.length + l1.length)) l0 l1 A1 l1.length c1 (fun _ => True) (fun _ => False) rfl rfl HO2.out (Kd.C_below HR1.out HB2.out) (fun _ _ h => h) (fun _ h => h.elim) (fun _ _ => trivial) HB2.out HB2.out.size (by have := HS.out; omega) ?_; intro v3 w3 ho hb hg hat; obtain ⟨L, hL⟩ : ∃ L : List Int, l0 ++ l1 = L := ⟨_, rfl⟩; rw [hL] at ho; have HLL := Aside0.mk (show L.length = l0.length + l1.length by rw [← hL, List.length_append]); have HL := Aside0.mk hL; clear hL; have hown := Kd.own_of_R ho; have hnn := not_nil hown (by have := HP.out; have := HLL.out; omega); obtain ⟨g3, cap3, hv3, hbg3, hlt3, hnc3, hcm3, hlen3, hH3⟩ := Lib.holds_of_ownsRow hown hnn; subst hv3; have HW3 := Aside0.mk hown; have HB3 := Aside0.mk hb; have GB3 := Aside0.mk hbg3; have GL3 := Aside0.mk hlt3; have GC3 := Aside0.mk hnc3; have HH3 := Aside0.mk hH3; clear ho hb hg hat hown hnn hbg3 hlt3 hnc3 hcm3 hlen3 hH3)
    | (go_at_call 80; refine (HT.out g3 0 cap3 L w3 HH3.out GL3.out (by have := HS.out; have := HLL.out; omega)).mono ?_; rintro e w4 ⟨rfl, nn, os, hw4⟩; have HW4 := Aside0.mk hw4; have HH4 := Aside0.mk (holds_sorted HH3.out GL3.out hw4); clear hw4)
    | (go_at_call 81; refine (compact_of HM.out HH4.out (by have := HS.out; have := HLL.out; omega) GC3.out).mono ?_; rintro e w5 ⟨rfl, q, hw5⟩; have HW5 := Aside0.mk hw5; clear hw5)
    | fail)
  go_ret
  obtain ⟨h1, h2⟩ := left_of (nn := nn) (os := os) (q := q) HW3.out HB3.out GB3.out
  rw [← HW4.out, ← HW5.out] at h1 h2
  unfold members
  rw [HL.out]
  exact ⟨_, rfl, Kd.R_of_own h1 (fun _ _ => trivial), h2⟩

end Go.Proofs.Ytbomomaidglegaa.Mem
