/- The law's 'same': a log and the document's. -/
import Derived.Test.YtbomomaidglegaaHistRef
import Derived.Deep.LoopGhost
import Derived.WalkSpells
namespace Go.Proofs.Ytbomomaidglegaa.Hist
open Go Go.RowKit Go.Proofs.Ytbomomaidglegaa.XHist Go.Proofs.YtbomomaidglegaaW.PrintWords Go.Proofs.YtbomomaidglegaaW.PrintLast Go.Proofs.YtbomomaidglegaaW.PrintMore
set_option linter.unusedVariables false
set_option linter.unusedSimpArgs false

theorem tm_tx (b : Int) (l : List S105) (i : Int) : tx b (l.map (·.f0)) i = tm b l i := by
  unfold tx tm
  rw [List.length_map]
  split
  · rename_i h
    obtain ⟨j, hj⟩ : ∃ j : Nat, i - b - 1 = (j : Int) := ⟨(i - b - 1).toNat, by omega⟩
    have hl : j < l.length := by omega
    rw [hj, rd105_at l j hl, rd_at_ _ j (by rw [List.length_map]; exact hl)]
    simp
  · rfl
theorem en_ex (b : Int) (l : List S105) (i : Int) : ex b (l.map (·.f1)) i = en b l i := by
  unfold ex en
  rw [List.length_map]
  split
  · rename_i h
    obtain ⟨j, hj⟩ : ∃ j : Nat, i - b - 1 = (j : Int) := ⟨(i - b - 1).toNat, by omega⟩
    have hl : j < l.length := by omega
    rw [hj, rd105_at l j hl, rd77_at _ j (by rw [List.length_map]; exact hl)]
    simp
  · rfl
theorem en_nil {b : Int} {l : List S105} (h : ∀ x ∈ l, x.f1.f4 = []) (i : Int) : (en b l i).f4 = [] := by
  unfold en
  split
  · rename_i hh
    obtain ⟨j, hj⟩ : ∃ j : Nat, i - b - 1 = (j : Int) := ⟨(i - b - 1).toNat, by omega⟩
    have hl : j < l.length := by omega
    rw [hj, rd105_at l j hl]
    exact h _ (List.getElem_mem hl)
  · rfl
theorem xlast_at {B : Nat} {W : World} {g : Nat} {F : Nat → Prop} {b : Int} {ts : List Int} {es : List S77} (h : IsX B W g F b ts es) (v : Int) (hv : b + (es.length : Int) = v) :
    Calls Try.prog 67 #[.pointer (some ⟨g, 0, none⟩)] W fun e w' => e = .returned (.int .i64 v) ∧ Drawn0 W w' :=
  (xlast_calls h).mono (by rintro e w' ⟨rfl, hd⟩; rw [hv]; exact ⟨rfl, hd⟩)
theorem last_at {B : Nat} {W : World} {g : Nat} {F : Nat → Prop} {b : Int} {l : List S105} (h : IsH B W g F b l) (v : Int) (hv : b + (l.length : Int) = v) :
    Calls Try.prog 35 #[.pointer (some ⟨g, 0, none⟩)] W fun e w' => e = .returned (.int .i64 v) ∧ Drawn0 W w' :=
  (last_calls h).mono (by rintro e w' ⟨rfl, hd⟩; rw [hv]; exact ⟨rfl, hd⟩)
theorem xterm_at {B : Nat} {W : World} {g : Nat} {F : Nat → Prop} {b : Int} {ts : List Int} {es : List S77} (h : IsX B W g F b ts es) (i m : Int) (hm : tx b ts i = m) :
    Calls Try.prog 68 #[.pointer (some ⟨g, 0, none⟩), .int .i64 i] W fun e w' => e = .returned (.int .i64 m) ∧ Drawn0 W w' :=
  (xterm_calls h i).mono (by rintro e w' ⟨rfl, hd⟩; rw [hm]; exact ⟨rfl, hd⟩)
theorem termb_at {B : Nat} {W : World} {g : Nat} {F : Nat → Prop} {b : Int} {l : List S105} (h : IsH B W g F b l) (i m : Int) (hm : tm b l i = m) :
    Calls Try.prog 36 #[.pointer (some ⟨g, 0, none⟩), .int .i64 i] W fun e w' => e = .returned (.int .i64 m) ∧ Drawn0 W w' :=
  (term_calls h i).mono (by rintro e w' ⟨rfl, hd⟩; rw [hm]; exact ⟨rfl, hd⟩)
/-- Entry of a log whose entries have no members. -/
theorem entry_at {B : Nat} {W : World} {g : Nat} {F : Nat → Prop} {b : Int} {l : List S105} (h : IsH B W g F b l) (hn : ∀ x ∈ l, x.f1.f4 = []) (i : Int) (x : S77) (q : Bool) (hx : en b l i = x) (hq : decide (b < i ∧ i ≤ b + (l.length : Int)) = q) :
    Calls Try.prog 46 #[.pointer (some ⟨g, 0, none⟩), .int .i64 i] W fun e w' => ∃ (A5 : Option Addr) (c5 : Nat), e = .returned (.tuple #[.agg #[.int .i64 x.f0, .int .i64 x.f1, .int .i64 x.f2, .string x.f3, .slice A5 0 c5, .int .i64 x.f5], .bool q]) ∧ Below W.heap.size W w' :=
  (entry_calls h (fun y hy => by rw [hn y hy]; simp) i).mono (by
    rintro e w' ⟨A5, c5, rfl, _, hb⟩
    refine ⟨A5, c5, ?_, hb⟩
    have h4 : x.f4 = [] := by rw [← hx]; exact en_nil hn i
    rw [hx, hq, h4]
    rfl)
theorem xentry_at {B : Nat} {W : World} {g : Nat} {F : Nat → Prop} {b : Int} {ts : List Int} {es : List S77} (h : IsX B W g F b ts es) (i : Int) (x : S77) (q : Bool) (hx : ex b es i = x) (hq : decide (b < i ∧ i ≤ b + (es.length : Int)) = q) :
    Calls Try.prog 69 #[.pointer (some ⟨g, 0, none⟩), .int .i64 i] W fun e w' => e = .returned (.tuple #[.agg #[.int .i64 x.f0, .int .i64 x.f1, .int .i64 x.f2, .string x.f3, .slice none 0 0, .int .i64 x.f5], .bool q]) ∧ Below W.heap.size W w' :=
  (xentry_calls h i).mono (by rintro e w' ⟨rfl, hb⟩; rw [hx, hq]; exact ⟨rfl, hb⟩)
theorem C_any {α : Type} (d : Kd α) (w : World) (A : Option Addr) : d.C w A ([] : List α).length [] := ⟨rfl, by simp, fun h => absurd h (Nat.lt_irrefl 0)⟩
theorem same_nil (A0 : Option Addr) (c0 : Nat) (A1 : Option Addr) (c1 : Nat) (x : S77) (w : World) :
    Calls Try.prog 47 #[.agg #[.int .i64 x.f0, .int .i64 x.f1, .int .i64 x.f2, .string x.f3, .slice A0 0 c0, .int .i64 x.f5], .agg #[.int .i64 x.f0, .int .i64 x.f1, .int .i64 x.f2, .string x.f3, .slice A1 0 c1, .int .i64 x.f5]] w fun e w' => e = .returned (.bool true) ∧ Below w.heap.size w w' := by
  have := same_entry A0 c0 A1 c1 ⟨x.f0, x.f1, x.f2, x.f3, [], x.f5⟩ w (C_any _ _ _) (Nat.zero_le _) (C_any _ _ _) (Nat.zero_le _) (by simp)
  simpa using this

theorem same_ints_n (A0 : Option Addr) (c0 : Nat) (A1 : Option Addr) (c1 : Nat) (l : List Int) (n : Nat) (w : World) (hn : l.length = n) (h0 : Kd.C (Kd.int .i64) w A0 n l) (hc0 : n ≤ c0) (h1 : Kd.C (Kd.int .i64) w A1 n l) (hc1 : n ≤ c1) (hl : n ≤ 1000000) :
    Calls Try.prog 43 #[.slice A0 n c0, .slice A1 n c1] w fun e w' => e = .returned (.bool true) ∧ Drawn0 w w' := by
  subst hn
  exact same_ints A0 c0 A1 c1 l w h0 hc0 h1 hc1 hl
theorem same_entries_n (A0 : Option Addr) (c0 : Nat) (A1 : Option Addr) (c1 : Nat) (l : List S77) (n : Nat) (w : World) (hn : l.length = n) (h0 : Kd.C k77 w A0 n l) (hc0 : n ≤ c0) (h1 : Kd.C k77 w A1 n l) (hc1 : n ≤ c1) (hl : n ≤ 1000000) (hm : ∀ x ∈ l, x.f4.length ≤ 1000000) :
    Calls Try.prog 44 #[.slice A0 n c0, .slice A1 n c1] w fun e w' => e = .returned (.bool true) ∧ Below w.heap.size w w' := by
  subst hn
  exact same_entries A0 c0 A1 c1 l w h0 hc0 h1 hc1 hl hm
theorem IsX.reads {B : Nat} {W : World} {g : Nat} {F : Nat → Prop} {b : Int} {ts : List Int} {es : List S77} (h : IsX B W g F b ts es) :
    ∃ A1 c1 A2 c2, W.heap[g]? = some (.cells #[.int .i64 b, .slice A1 ts.length c1, .slice A2 es.length c2] 67 (0, 0)) ∧ ts.length ≤ c1 ∧ es.length ≤ c2 ∧ Kd.C (Kd.int .i64) W A1 ts.length ts ∧ Kd.C k77 W A2 es.length es ∧ ts.length = es.length ∧ 0 ≤ b ∧ b + (es.length : Int) ≤ 64 := by
  obtain ⟨A1, c1, A2, c2, hb, _, _, _, hR, hE, hl, h0, h1⟩ := h
  exact ⟨A1, c1, A2, c2, hb, (Kd.R_reads' hR).2.1, (Kd.R_reads' hE).2.1, (Kd.R_reads' hR).2.2, kp_C (Kd.R_reads' hE).2.2, hl, h0, h1⟩

set_option maxHeartbeats 8000000 in
set_option maxRecDepth 100000 in
theorem both_calls {B B' : Nat} {W : World} {g gx : Nat} {F F' : Nat → Prop} {b : Int} {l : List S105} {ts : List Int} {es : List S77} (h : IsH B W g F b l) (hx : IsX B' W gx F' b ts es) (ht : ts = l.map (·.f0)) (he : es = l.map (·.f1)) (hn : ∀ x ∈ l, x.f1.f4 = []) :
    Calls Try.prog 49 #[.pointer (some ⟨g, 0, none⟩), .pointer (some ⟨gx, 0, none⟩)] W fun e w' => e = .returned (.bool true) ∧ Below W.heap.size W w' := by
  have hu77 := Try.underlying77
  obtain ⟨A1, c1, A2, c2, hb, hc1, hc2, hC1, hC2, hll, h0, h64⟩ := hx.reads
  have HH := Aside0.mk h
  have HX := Aside0.mk hx
  have HT := Aside0.mk ht
  have HE := Aside0.mk he
  have HN := Aside0.mk hn
  have hel : es.length = l.length := by rw [he, List.length_map]
  have htl : ts.length = l.length := by rw [ht, List.length_map]
  obtain ⟨n, hnl⟩ : ∃ n, l.length = n := ⟨_, rfl⟩
  have HL := Aside0.mk (show b + (l.length : Int) = b + (n : Int) by omega)
  have HLX := Aside0.mk (show b + (es.length : Int) = b + (n : Int) by omega)
  rw [htl, hnl] at hb hC1 hc1
  rw [hel, hnl] at hb hC2 hc2
  have h64n : b + (n : Int) ≤ 64 := by omega
  have hc0 : W.cell? ⟨gx, 0, none⟩ = some (.int .i64 b) := (blk_cell hb 0).trans rfl
  have hcx1 : W.cell? ⟨gx, 1, none⟩ = some (.slice A1 n c1) := (blk_cell hb 1).trans rfl
  have hcx2 : W.cell? ⟨gx, 2, none⟩ = some (.slice A2 n c2) := (blk_cell hb 2).trans rfl
  have BX := Aside0.mk hb
  have HC1 := Aside0.mk hC1
  have HC2 := Aside0.mk hC2
  have HCC1 := Aside0.mk hc1
  have HCC2 := Aside0.mk hc2
  have HTL := Aside0.mk (show ts.length = n by omega)
  have HEL := Aside0.mk (show es.length = n by omega)
  have HMM := Aside0.mk (show ∀ x ∈ l, x.f1.f4.length < 17592186044416 from fun x hx => by rw [hn x hx]; simp)
  have HEM := Aside0.mk (show ∀ x ∈ es, x.f4.length ≤ 1000000 from fun x hx => by rw [he] at hx; obtain ⟨y, hy, rfl⟩ := List.mem_map.1 hx; rw [hn y hy]; simp)
  have HFX := Aside0.mk (show fromIx b l 0 = 0 by unfold fromIx; rw [if_neg (by omega)])
  clear h hx ht he hn hel htl hnl hll h64 hC1 hC2 hc1 hc2 hb
  go_enter Try.func49, Try.ntmps49
  go_upto_region 3 with (first
    | (go_at_call 35; refine (last_at (B := B) (F := F) (b := b) (l := l) ?hI _ HL.out).mono ?_; (case hI => (with_reducible repeat (first | exact HH.out | refine IsH.drewN ?_ _ | refine IsH.drew ?_))); rintro e_ w' ⟨rfl, ⟨n_, rfl⟩⟩)
    | (go_at_call 67; refine (xlast_at (B := B') (F := F') (b := b) (ts := ts) (es := es) ?hI _ HLX.out).mono ?_; (case hI => (with_reducible repeat (first | exact HX.out | refine IsX.drewN ?_ _ | refine IsX.drew ?_))); rintro e_ w' ⟨rfl, ⟨n_, rfl⟩⟩))
  generalize hw1 : World.drewN W _ = w1
  have hb1 : Below W.heap.size W w1 := by rw [← hw1]; exact pw_below_drewN (Below.refl _ _) _
  have HB1 := Aside0.mk hb1
  clear hb1 hw1
  go_upto_region 4 with (go_at_call 42; refine (from_calls (B := B) (F := F) (b := b) (l := l) (HH.out.below HB1.out) HMM.out 0 (by omega) (by omega)).mono ?_; rintro e_ w2 ⟨B1, d1, B2, d2, us, ms, rfl, hu_, hm_, hb_, hus, hms⟩; have HU := Aside0.mk hu_; have HM := Aside0.mk hm_; have HB2 := Aside0.mk (below_then HB1.out HB1.out.size hb_); have HUS := Aside0.mk hus; have HMS := Aside0.mk hms; clear hu_ hm_ hb_ hus hms)
  have hus : us = ts := by rw [HUS.out, HFX.out, HT.out, List.drop_zero]
  have hms : ms = es := by rw [HMS.out, HFX.out, HE.out, List.drop_zero]
  have hcU := (Kd.R_reads' HU.out).2
  have hcM := (Kd.R_reads' HM.out).2
  rw [hus] at hcU ⊢
  rw [hms] at hcM ⊢
  rw [HTL.out] at hcU ⊢
  rw [HEL.out] at hcM ⊢
  have HCU := Aside0.mk hcU
  have HCM := Aside0.mk hcM
  clear hcU hcM HU HM HUS HMS hus hms hc0 hcx1 hcx2
  have hb2 := blk_below BX.out HB2.out
  have hcx1 : w2.cell? ⟨gx, 1, none⟩ = some (.slice A1 n c1) := (blk_cell hb2 1).trans rfl
  have hcx2 : w2.cell? ⟨gx, 2, none⟩ = some (.slice A2 n c2) := (blk_cell hb2 2).trans rfl
  clear hb2
  go_upto_region 6 with (first
    | (go_at_call 43; refine (same_ints_n B1 d1 A1 c1 ts n _ HTL.out HCU.out.2 HCU.out.1 (Kd.C_below HC1.out HB2.out) HCC1.out (by omega)).mono ?_; rintro e_ w' ⟨rfl, ⟨n_, rfl⟩⟩)
    | (go_at_call 44; refine (same_entries_n B2 d2 A2 c2 es n _ HEL.out (Kd.C_below HCM.out.2 (pw_below_drewN (Below.refl _ _) _)) HCM.out.1 (Kd.C_below HC2.out (pw_below_drewN HB2.out _)) HCC2.out (by omega) HEM.out).mono ?_; rintro e_ w3 ⟨rfl, hb_⟩; have HB3 := Aside0.mk (below_then HB2.out HB2.out.size (below_then (pw_below_drewN (Below.refl _ _) _) (Nat.le_refl _) hb_)); clear hb_))
  clear hcx1 hcx2 HCU HCM
  have hb3 := blk_below BX.out HB3.out
  have hc0 : w3.cell? ⟨gx, 0, none⟩ = some (.int .i64 b) := (blk_cell hb3 0).trans rfl
  have hw0 : wrap64 (b - 1) = b - 1 := by unfold wrap64; omega
  clear hb3
  go_wp2
  go_loopw [7] (fun v7 wr => ∃ (i : Int), v7 = .int .i64 i ∧ b - 1 ≤ i ∧ i ≤ b + (n : Int) + 2 ∧ Aside0 (Below W.heap.size W wr))
    (fun v7 _ => (b + (n : Int) + 2 - intOf v7).toNat)
  case atStart => exact ⟨b - 1, by first | rfl | rw [hw0], by omega, by omega, HB3⟩
  case round =>
    obtain ⟨i, rfl, hi1, hi2, HBR⟩ := hrel
    have HHR := Aside0.mk (HH.out.below HBR.out)
    have HXR := Aside0.mk (HX.out.below HBR.out)
    have hwn : wrap64 (b + (n : Int) + 1) = b + (n : Int) + 1 := by unfold wrap64; omega
    clear HB3 HB2 HB1 HC1 HC2 HCC1 HCC2 hc0 hw0
    by_cases hlt : i ≤ b + (n : Int) + 1
    · have q1 := eq_true hlt
      have q2 := decide_eq_true hlt
      obtain ⟨x, hx⟩ : ∃ x, en b l i = x := ⟨_, rfl⟩
      obtain ⟨m, hm⟩ : ∃ m, tm b l i = m := ⟨_, rfl⟩
      obtain ⟨qb, hqb⟩ : ∃ q, decide (b < i ∧ i ≤ b + (l.length : Int)) = q := ⟨_, rfl⟩
      have HEX := Aside0.mk hx
      have HTM := Aside0.mk hm
      have HQB := Aside0.mk hqb
      have HXX := Aside0.mk (show ex b es i = x by rw [HE.out, en_ex, hx])
      have HXM := Aside0.mk (show tx b ts i = m by rw [HT.out, tm_tx, hm])
      have HXQ := Aside0.mk (show decide (b < i ∧ i ≤ b + (es.length : Int)) = qb by rw [← hqb, HE.out, List.length_map])
      clear hx hm hqb
      go_upto_region 10 with (first
        | (go_at_call 67; refine (xlast_at (B := B') (F := F') (b := b) (ts := ts) (es := es) ?hI _ HLX.out).mono ?_; (case hI => (with_reducible repeat (first | exact HXR.out | refine IsX.drewN ?_ _ | refine IsX.drew ?_))); rintro e_ w' ⟨rfl, ⟨n_, rfl⟩⟩)
        | (go_at_call 46; refine (entry_at (B := B) (F := F) (b := b) (l := l) ?hI HN.out i x qb HEX.out HQB.out).mono ?_; (case hI => (with_reducible repeat (first | exact HHR.out | refine IsH.drewN ?_ _ | refine IsH.drew ?_))); rintro e_ w4 ⟨A5, c5, rfl, hb_⟩; have HB4 := Aside0.mk (below_then (pw_below_drewN (Below.refl _ _) _) (Nat.le_refl _) hb_ : Below wr.heap.size wr w4); clear hb_))
      generalize hw5 : World.alloc w4 _ = w5
      have hb5 : Below w4.heap.size w4 w5 := by rw [← hw5]; exact below_alloc (Below.refl _ _) _
      have hx5 : w5.heap[w4.heap.size]? = some (.cells #[.int .i64 x.f0, .int .i64 x.f1, .int .i64 x.f2, .string x.f3, .slice A5 0 c5, .int .i64 x.f5] 77 (0, 0)) := by rw [← hw5]; exact heap_alloc_new _ _
      obtain ⟨g5, hg5⟩ : ∃ q, w4.heap.size = q := ⟨_, rfl⟩
      rw [hg5] at hx5 ⊢
      have HB5 := Aside0.mk (below_then HB4.out HB4.out.size hb5)
      have HX5 := Aside0.mk hx5
      clear hw5 hb5 hx5 hg5
      go_upto_region 11 with (first
        | (go_at_call 69; refine (xentry_at (B := B') (F := F') (b := b) (ts := ts) (es := es) (HXR.out.below HB5.out) i x qb HXX.out HXQ.out).mono ?_; rintro e_ w6 ⟨rfl, hb_⟩; have HB6 := Aside0.mk hb_; clear hb_))
      generalize hw7 : World.alloc w6 _ = w7
      have hb7 : Below w6.heap.size w6 w7 := by rw [← hw7]; exact below_alloc (Below.refl _ _) _
      have hx7 : w7.heap[w6.heap.size]? = some (.cells #[.int .i64 x.f0, .int .i64 x.f1, .int .i64 x.f2, .string x.f3, .slice none 0 0, .int .i64 x.f5] 77 (0, 0)) := by rw [← hw7]; exact heap_alloc_new _ _
      obtain ⟨g7, hg7⟩ : ∃ q, w6.heap.size = q := ⟨_, rfl⟩
      rw [hg7] at hx7 ⊢
      have hb57 : Below w5.heap.size w5 w7 := below_then HB6.out HB6.out.size hb7
      have hy5 := blk_below HX5.out hb57
      have HB7 := Aside0.mk (below_then HB5.out HB5.out.size hb57)
      have HH7 := Aside0.mk (HHR.out.below HB7.out)
      have HX7 := Aside0.mk (HXR.out.below HB7.out)
      have hx50 := blk_cell hy5 0
      have hx70 := blk_cell hx7 0
      have hx51 := blk_cell hy5 1
      have hx71 := blk_cell hx7 1
      have hx52 := blk_cell hy5 2
      have hx72 := blk_cell hx7 2
      have hx53 := blk_cell hy5 3
      have hx73 := blk_cell hx7 3
      have hx54 := blk_cell hy5 4
      have hx74 := blk_cell hx7 4
      have hx55 := blk_cell hy5 5
      have hx75 := blk_cell hx7 5
      clear hw7 hb7 hg7 hb57 HB5 HB6 HX5 hx7 hy5 HB4
      have hqq : (qb != qb) = false := by cases qb <;> rfl
      have hmm : (m != m) = false := by simp
      go_wp2_with (first
        | (go_at_call 47; refine (same_nil A5 c5 none 0 x _).mono ?_; rintro e_ w8 ⟨rfl, hb_⟩; have HB8 := Aside0.mk hb_; clear hb_)
        | (go_at_call 36; refine (termb_at (B := B) (F := F) (b := b) (l := l) ?hI i m HTM.out).mono ?_; (case hI => (with_reducible repeat (first | exact HH7.out.below HB8.out | refine IsH.drewN ?_ _ | refine IsH.drew ?_))); rintro e_ w' ⟨rfl, ⟨n_, rfl⟩⟩)
        | (go_at_call 68; refine (xterm_at (B := B') (F := F') (b := b) (ts := ts) (es := es) ?hI i m HXM.out).mono ?_; (case hI => (with_reducible repeat (first | exact HX7.out.below HB8.out | refine IsX.drewN ?_ _ | refine IsX.drew ?_))); rintro e_ w' ⟨rfl, ⟨n_, rfl⟩⟩))
      case roundEnd =>
        have hwi : wrap64 (i + 1) = i + 1 := by unfold wrap64; omega
        refine ⟨⟨i + 1, by first | rfl | rw [hwi], by omega, by omega, ⟨below_then HBR.out HBR.out.size (below_then HB7.out HB7.out.size (pw_below_drewN HB8.out _))⟩⟩, ?_⟩
        first | (simp only [intOf]; omega) | (simp only [intOf, hwi]; omega)
    · have q1 := eq_false hlt
      have q2 := decide_eq_false hlt
      go_wp2_with (first
        | (go_at_call 67; refine (xlast_at (B := B') (F := F') (b := b) (ts := ts) (es := es) ?hI _ HLX.out).mono ?_; (case hI => (with_reducible repeat (first | exact HXR.out | refine IsX.drewN ?_ _ | refine IsX.drew ?_))); rintro e_ w' ⟨rfl, ⟨n_, rfl⟩⟩))
      go_ret
      exact ⟨rfl, pw_below_drewN HBR.out _⟩
end Go.Proofs.Ytbomomaidglegaa.Hist
