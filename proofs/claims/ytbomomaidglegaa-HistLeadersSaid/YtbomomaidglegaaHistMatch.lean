/- The law's match: of two logs of which the law holds that they match. -/
import Derived.Test.YtbomomaidglegaaHistBoth
import Derived.Deep.LoopGhost
import Derived.WalkSpells
namespace Go.Proofs.Ytbomomaidglegaa.Hist
open Go Go.RowKit Go.Proofs.Ytbomomaidglegaa.XHist Go.Proofs.YtbomomaidglegaaW.PrintWords Go.Proofs.YtbomomaidglegaaW.PrintLast Go.Proofs.YtbomomaidglegaaW.PrintMore
set_option linter.unusedVariables false
set_option linter.unusedSimpArgs false
attribute [local go_sem] max2_int min2_int max_two min_two

/-- Two logs match. -/
def Mt (a b : List S105) : Prop := ∀ i (ha : i < a.length) (hb : i < b.length), (a[i]).f0 = (b[i]).f0 → a.take (i + 1) = b.take (i + 1)
theorem mt_refl (a : List S105) : Mt a a := fun _ _ _ _ => rfl
theorem mt_symm {a b : List S105} (h : Mt a b) : Mt b a := fun i ha hb he => (h i hb ha he.symm).symm
theorem take_at {a b : List S105} {n : Nat} (h : a.take n = b.take n) (k : Nat) (hk : k < n) (ha : k < a.length) (hb : k < b.length) : a[k] = b[k] := by
  have h1 : (a.take n)[k]? = (b.take n)[k]? := by rw [h]
  rw [List.getElem?_take_of_lt hk, List.getElem?_take_of_lt hk, List.getElem?_eq_getElem ha, List.getElem?_eq_getElem hb] at h1
  exact Option.some.inj h1
theorem tm_nat (l : List S105) (k : Nat) (h : k < l.length) : tm 0 l ((k : Int) + 1) = (l[k]).f0 := by
  have := tm_in 0 l k h
  rwa [show (0 : Int) + 1 + (k : Int) = (k : Int) + 1 by omega] at this
theorem en_nat (l : List S105) (k : Nat) (h : k < l.length) : en 0 l ((k : Int) + 1) = (l[k]).f1 := by
  unfold en
  rw [if_pos (by omega), show (k : Int) + 1 - 0 - 1 = (k : Int) by omega, rd105_at l k h]

set_option maxHeartbeats 8000000 in
set_option maxRecDepth 100000 in
theorem match_calls {B B' : Nat} {W : World} {ga gb : Nat} {F F' : Nat → Prop} {la lb : List S105} (ha : IsH B W ga F 0 la) (hb : IsH B' W gb F' 0 lb) (hm : Mt la lb) (na : ∀ x ∈ la, x.f1.f4 = []) (nb : ∀ x ∈ lb, x.f1.f4 = []) :
    Calls Try.prog 45 #[.pointer (some ⟨ga, 0, none⟩), .pointer (some ⟨gb, 0, none⟩)] W fun e w' => e = .returned (.bool true) ∧ Below W.heap.size W w' := by
  have hu77 := Try.underlying77
  have HA := Aside0.mk ha
  have HB := Aside0.mk hb
  have HM := Aside0.mk hm
  have NA := Aside0.mk na
  have NB := Aside0.mk nb
  have ba := ha.bounds.2
  have bb := hb.bounds.2
  obtain ⟨x, hx⟩ : ∃ x, la.length = x := ⟨_, rfl⟩
  obtain ⟨y, hy⟩ : ∃ y, lb.length = y := ⟨_, rfl⟩
  rw [hx] at ba
  rw [hy] at bb
  have LX := Aside0.mk hx
  have LY := Aside0.mk hy
  have HLA := Aside0.mk (show (0 : Int) + (la.length : Int) = (x : Int) by omega)
  have HLB := Aside0.mk (show (0 : Int) + (lb.length : Int) = (y : Int) by omega)
  clear ha hb hm na nb hx hy
  go_enter Try.func45, Try.ntmps45
  go_upto_region 2 with (first
    | (go_at_call_of 35 (Value.pointer (some ⟨ga, 0, none⟩)); refine (last_at (B := B) (F := F) (b := 0) (l := la) ?hI _ HLA.out).mono ?_; (case hI => (with_reducible repeat (first | exact HA.out | refine IsH.drewN ?_ _ | refine IsH.drew ?_))); rintro e_ w' ⟨rfl, ⟨n_, rfl⟩⟩)
    | (go_at_call 35; refine (last_at (B := B') (F := F') (b := 0) (l := lb) ?hI _ HLB.out).mono ?_; (case hI => (with_reducible repeat (first | exact HB.out | refine IsH.drewN ?_ _ | refine IsH.drew ?_))); rintro e_ w' ⟨rfl, ⟨n_, rfl⟩⟩))
  all_goals
   go_loopw [5] (fun v5 wr => ∃ (i : Nat), v5 = .int .i64 (i : Int) ∧ i ≤ x ∧ i ≤ y ∧ Aside0 (Below W.heap.size W wr))
    (fun v5 _ => (intOf v5).toNat)
   case atStart => first | exact ⟨x, rfl, by omega, by omega, ⟨pw_below_drewN (Below.refl _ _) _⟩⟩ | exact ⟨y, rfl, by omega, by omega, ⟨pw_below_drewN (Below.refl _ _) _⟩⟩
   case round =>
    obtain ⟨i, rfl, hix, hiy, HBR⟩ := hrel
    have HAR := Aside0.mk (HA.out.below HBR.out)
    have HBW := Aside0.mk (HB.out.below HBR.out)
    by_cases hz : i = 0
    · subst hz
      go_wp2
      go_ret
      exact ⟨rfl, HBR.out⟩
    · obtain ⟨p, rfl⟩ : ∃ p, i = p + 1 := ⟨i - 1, by omega⟩
      have q1 := eq_true (show 0 < ((p + 1 : Nat) : Int) by omega)
      have q2 := decide_eq_true (show 0 < ((p + 1 : Nat) : Int) by omega)
      have q3 : decide (0 < p + 1) = true := decide_eq_true (by omega)
      have hpa : p < la.length := by rw [LX.out]; omega
      have hpb : p < lb.length := by rw [LY.out]; omega
      obtain ⟨ma, hma⟩ : ∃ m, tm 0 la ((p + 1 : Nat) : Int) = m := ⟨_, rfl⟩
      obtain ⟨mb, hmb⟩ : ∃ m, tm 0 lb ((p + 1 : Nat) : Int) = m := ⟨_, rfl⟩
      have HTA := Aside0.mk hma
      have HTB := Aside0.mk hmb
      have hwp : wrap64 (((p + 1 : Nat) : Int) - 1) = (p : Int) := by unfold wrap64; omega
      have hwq : ((p + 1 : Nat) : Int) - 1 = (p : Int) := by omega
      by_cases he : ma = mb
      · have hne : (ma != mb) = false := bne_eq_false_iff_eq.mpr he
        have HTK := Aside0.mk (HM.out p hpa hpb (by rw [show ((p + 1 : Nat) : Int) = (p : Int) + 1 by omega] at hma hmb; rw [tm_nat la p hpa] at hma; rw [tm_nat lb p hpb] at hmb; rw [hma, hmb, he]))
        clear hma hmb hpa hpb hz he
        go_upto_region 5 with (first
          | (go_at_call_of 36 (Value.pointer (some ⟨ga, 0, none⟩)); refine (termb_at (B := B) (F := F) (b := 0) (l := la) ?hI _ ma HTA.out).mono ?_; (case hI => (with_reducible repeat (first | exact HAR.out | refine IsH.drewN ?_ _ | refine IsH.drew ?_))); rintro e_ w' ⟨rfl, ⟨n_, rfl⟩⟩)
          | (go_at_call 36; refine (termb_at (B := B') (F := F') (b := 0) (l := lb) ?hI _ mb HTB.out).mono ?_; (case hI => (with_reducible repeat (first | exact HBW.out | refine IsH.drewN ?_ _ | refine IsH.drew ?_))); rintro e_ w' ⟨rfl, ⟨n_, rfl⟩⟩))
        clear hne
        go_wp2
        go_loopw [6] (fun v6 ws => ∃ (k : Nat), v6 = .int .i64 ((k : Int) + 1) ∧ k ≤ p + 1 ∧ Aside0 (Below W.heap.size W ws))
          (fun v6 _ => p + 2 - (intOf v6).toNat)
        case atStart => exact ⟨0, rfl, by omega, ⟨pw_below_drewN HBR.out _⟩⟩
        case round =>
          obtain ⟨k, rfl, hk, HBS⟩ := hrel
          have HAS := Aside0.mk (HA.out.below HBS.out)
          have HBT := Aside0.mk (HB.out.below HBS.out)
          by_cases hkp : k < p + 1
          · have r1 := eq_true (show (k : Int) + 1 ≤ ((p + 1 : Nat) : Int) by omega)
            have r2 := decide_eq_true (show (k : Int) + 1 ≤ ((p + 1 : Nat) : Int) by omega)
            have hka : k < la.length := by rw [LX.out]; omega
            have hkb : k < lb.length := by rw [LY.out]; omega
            have hkk := take_at HTK.out k hkp hka hkb
            obtain ⟨z, hz⟩ : ∃ z, en 0 la ((k : Int) + 1) = z := ⟨_, rfl⟩
            obtain ⟨m, hm⟩ : ∃ m, tm 0 la ((k : Int) + 1) = m := ⟨_, rfl⟩
            have HZB := Aside0.mk (show en 0 lb ((k : Int) + 1) = z by rw [en_nat lb k hkb, ← hkk, ← en_nat la k hka, hz])
            have HMB := Aside0.mk (show tm 0 lb ((k : Int) + 1) = m by rw [tm_nat lb k hkb, ← hkk, ← tm_nat la k hka, hm])
            have HZA := Aside0.mk hz
            have HMA := Aside0.mk hm
            have HDA := Aside0.mk (show decide ((0 : Int) < (k : Int) + 1 ∧ (k : Int) + 1 ≤ 0 + (la.length : Int)) = true from decide_eq_true (by omega))
            have HDB := Aside0.mk (show decide ((0 : Int) < (k : Int) + 1 ∧ (k : Int) + 1 ≤ 0 + (lb.length : Int)) = true from decide_eq_true (by omega))
            clear hka hkb hkk hz hm
            go_upto_region 9 with (first
              | (go_at_call 46; refine (entry_at (B := B) (F := F) (b := 0) (l := la) HAS.out NA.out ((k : Int) + 1) z true HZA.out HDA.out).mono ?_; rintro e_ w4 ⟨A5, c5, rfl, hb_⟩; have HB4 := Aside0.mk hb_; clear hb_))
            generalize hw5 : World.alloc w4 _ = w5
            have hb5 : Below w4.heap.size w4 w5 := by rw [← hw5]; exact below_alloc (Below.refl _ _) _
            have hx5 : w5.heap[w4.heap.size]? = some (.cells #[.int .i64 z.f0, .int .i64 z.f1, .int .i64 z.f2, .string z.f3, .slice A5 0 c5, .int .i64 z.f5] 77 (0, 0)) := by rw [← hw5]; exact heap_alloc_new _ _
            obtain ⟨g5, hg5⟩ : ∃ q, w4.heap.size = q := ⟨_, rfl⟩
            rw [hg5] at hx5 ⊢
            have HB5 := Aside0.mk (below_then HB4.out HB4.out.size hb5)
            have HX5 := Aside0.mk hx5
            clear hw5 hb5 hx5 hg5
            go_upto_region 10 with (first
              | (go_at_call 46; refine (entry_at (B := B') (F := F') (b := 0) (l := lb) (HBT.out.below HB5.out) NB.out ((k : Int) + 1) z true HZB.out HDB.out).mono ?_; rintro e_ w6 ⟨A7, c7, rfl, hb_⟩; have HB6 := Aside0.mk hb_; clear hb_))
            generalize hw7 : World.alloc w6 _ = w7
            have hb7 : Below w6.heap.size w6 w7 := by rw [← hw7]; exact below_alloc (Below.refl _ _) _
            have hx7 : w7.heap[w6.heap.size]? = some (.cells #[.int .i64 z.f0, .int .i64 z.f1, .int .i64 z.f2, .string z.f3, .slice A7 0 c7, .int .i64 z.f5] 77 (0, 0)) := by rw [← hw7]; exact heap_alloc_new _ _
            obtain ⟨g7, hg7⟩ : ∃ q, w6.heap.size = q := ⟨_, rfl⟩
            rw [hg7] at hx7 ⊢
            have hb57 : Below w5.heap.size w5 w7 := below_then HB6.out HB6.out.size hb7
            have hy5 := blk_below HX5.out hb57
            have HB7 := Aside0.mk (below_then HB5.out HB5.out.size hb57)
            have HA7 := Aside0.mk (HAS.out.below HB7.out)
            have HX7 := Aside0.mk (HBT.out.below HB7.out)
            have hx50 := blk_cell hy5 0
            have hx70 := blk_cell hx7 0
            have hx51 := blk_cell hy5 1
            have hx71 := blk_cell hx7 1
            have hx52 := blk_cell hy5 2
            have hx72 := blk_cell hx7 2
            have hx53 := blk_cell hy5 3
            have hx73 := blk_cell hx7 3
            have hx54 := blk_cell hy5 4
            have hx74 := blk_cell hx7 4
            have hx55 := blk_cell hy5 5
            have hx75 := blk_cell hx7 5
            clear hw7 hb7 hg7 hb57 HB5 HB6 HX5 hx7 hy5 HB4
            have hmm : (m != m) = false := by simp
            have hwk : wrap64 ((k : Int) + 1 + 1) = (k : Int) + 1 + 1 := by unfold wrap64; omega
            go_wp2_with (first
              | (go_at_call 47; refine (same_nil A5 c5 A7 c7 z _).mono ?_; rintro e_ w8 ⟨rfl, hb_⟩; have HB8 := Aside0.mk (below_then HB7.out HB7.out.size (below_then (pw_below_drewN (Below.refl _ _) _) (Nat.le_refl _) hb_)); clear hb_)
              | (go_at_call_of 36 (Value.pointer (some ⟨ga, 0, none⟩)); refine (termb_at (B := B) (F := F) (b := 0) (l := la) ?hI _ m HMA.out).mono ?_; (case hI => (with_reducible repeat (first | exact HA7.out | refine IsH.drewN ?_ _ | refine IsH.drew ?_))); rintro e_ w' ⟨rfl, ⟨n_, rfl⟩⟩)
              | (go_at_call 36; refine (termb_at (B := B') (F := F') (b := 0) (l := lb) ?hI _ m HMB.out).mono ?_; (case hI => (with_reducible repeat (first | exact HX7.out | refine IsH.drewN ?_ _ | refine IsH.drew ?_))); rintro e_ w' ⟨rfl, ⟨n_, rfl⟩⟩))
            case roundEnd =>
              refine ⟨⟨k + 1, by first | rfl | (rw [hwk]; rfl), by omega, ⟨below_then HBS.out HBS.out.size HB8.out⟩⟩, ?_⟩
              first | (simp only [intOf]; omega) | (simp only [intOf, hwk]; omega)
          · have r1 := eq_false (show ¬ (k : Int) + 1 ≤ ((p + 1 : Nat) : Int) by omega)
            have r2 := decide_eq_false (show ¬ (k : Int) + 1 ≤ ((p + 1 : Nat) : Int) by omega)
            go_wp2
            go_ret
            exact ⟨rfl, HBS.out⟩
      · have hne : (ma != mb) = true := bne_iff_ne.mpr he
        clear hma hmb hpa hpb hz he
        go_wp2_with (first
          | (go_at_call_of 36 (Value.pointer (some ⟨ga, 0, none⟩)); refine (termb_at (B := B) (F := F) (b := 0) (l := la) ?hI _ ma HTA.out).mono ?_; (case hI => (with_reducible repeat (first | exact HAR.out | refine IsH.drewN ?_ _ | refine IsH.drew ?_))); rintro e_ w' ⟨rfl, ⟨n_, rfl⟩⟩)
          | (go_at_call 36; refine (termb_at (B := B') (F := F') (b := 0) (l := lb) ?hI _ mb HTB.out).mono ?_; (case hI => (with_reducible repeat (first | exact HBW.out | refine IsH.drewN ?_ _ | refine IsH.drew ?_))); rintro e_ w' ⟨rfl, ⟨n_, rfl⟩⟩))
        case roundEnd =>
          refine ⟨⟨p, by first | rfl | rw [hwp], by omega, by omega, ⟨pw_below_drewN HBR.out _⟩⟩, ?_⟩
          first | (simp only [intOf]; omega) | (simp only [intOf, hwp]; omega)
end Go.Proofs.Ytbomomaidglegaa.Hist
