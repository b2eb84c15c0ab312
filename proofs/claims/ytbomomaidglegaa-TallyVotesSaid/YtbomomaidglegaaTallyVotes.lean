/- TallyVotes: counting as the document counts. -/
import Derived.Test.YtbomomaidglegaaVotes7
import Derived.Test.YtbomomaidglegaaTallySplit
namespace Go.Proofs.Ytbomomaidglegaa.Votes
open Go Go.RowKit Go.Maps Go.Proofs.Ytbomomaidglegaa.XTally Go.Proofs.YtbomomaidglegaaW.PrintWords Go.Proofs.YtbomomaidglegaaW.PrintLast Go.Proofs.YtbomomaidglegaaW.PrintMore
set_option linter.unusedVariables false
set_option linter.unusedSimpArgs false

set_option maxHeartbeats 8000000 in
set_option maxRecDepth 100000 in
theorem TallyVotes_walk (a0 a1 : Int) (A2 : Option Addr) (c2 : Nat) (l2 : List S44) (w : World) (_w0 : (Lit.int .i64 a0).wf = true) (_w1 : (Lit.int .i64 a1).wf = true)
    (hC : Kd.C k44 w A2 l2.length l2) (_hc : l2.length ≤ c2) (hm : l2.length ≤ maxLen) (ho : ∀ a ∈ l2, (Lit.int .i64 a.f0).wf = true) :
    Calls Try.prog 5 #[.int .i64 a0, .int .i64 a1, .slice A2 l2.length c2] w fun e w' => e = .returned (.bool true) ∧ Below w.heap.size w w' := by
  have hu26 := Try.underlying26
  have hu41 := Try.underlying41
  obtain ⟨a, b, hgd, ha7, hb1, hb7, hra, hrb⟩ := CP.good_f a0 a1
  have HGD := Aside0.mk (hgd 20 (Nat.le_refl _))
  have HBX := Aside0.mk (show ∀ x, x ∈ a ∨ x ∈ b → -1 < x ∧ x < 9 from fun x hx => hx.elim (CP.rises_mem _ _ hra x) (CP.rises_mem _ _ hrb x))
  have HMW := Aside0.mk (show ∀ x ∈ Mem.members a b, (Lit.int .i64 x).wf = true from fun x hx => by have h := HBX.out x (of_members _ _ _ hx); exact wf_small x h.1 h.2)
  have HA7 := Aside0.mk (show a.length ≤ 1000 by omega)
  have HB7 := Aside0.mk (show b.length ≤ 1000 by omega)
  have HB1 := Aside0.mk hb1
  have HCP := Aside0.mk hC
  have HWF := Aside0.mk ho
  have HMX := Aside0.mk (show l2.length ≤ 9223372036854775807 by have h := hm; unfold maxLen at h; omega)
  clear _w0 _w1 hgd ha7 hb1 hb7 hra hrb hC ho hm _hc
  go_enter Try.func5, Try.ntmps5
  go_upto_region 4 with (first
    | (go_at_call 15; refine (synodallaw9_known.calls true _ known_f).mono ?_; rintro e_ w1 ⟨rfl, hb1⟩; have HBK := Aside0.mk hb1; clear hb1)
    | (go_at_call 16; refine (synodallaw8_Good.calls 20 a0 a1 a b _ HGD.out).mono ?_; rintro e_ w3 ⟨v0_, v1_, rfl, hr0_, hr1_, hb_⟩; have HB3 := Aside0.mk hb_; have HRA := Aside0.mk hr0_; have HRB := Aside0.mk hr1_; obtain ⟨Aa, ca, e0_⟩ := Kd.R_slice hr0_; obtain ⟨Ab, cb, e1_⟩ := Kd.R_slice hr1_; subst e0_; subst e1_; clear hr0_ hr1_ hb_))
  generalize hw4 : World.alloc w3 _ = w4
  have hb4 : Below w3.heap.size w3 w4 := by rw [← hw4]; exact below_alloc (Below.refl _ _) _
  have hx4 : w4.heap[w3.heap.size]? = some (.cells #[.slice Aa a.length ca, .slice Ab b.length cb] 26 (0, 0)) := by rw [← hw4]; exact heap_alloc_new _ _
  obtain ⟨gc, hgc⟩ : ∃ q, w3.heap.size = q := ⟨_, rfl⟩
  rw [hgc] at hx4 ⊢
  have HB4 := Aside0.mk (show Below w3.heap.size w3 w4.drew from below_drew hb4)
  have BC4 := Aside0.mk (blk_drew hx4)
  have HX0 := Aside0.mk (show w4.drew.cell? ⟨gc, 0, none⟩ = some (.slice Aa a.length ca) from (blk_cell hx4 0).trans rfl)
  have HX1 := Aside0.mk (show w4.drew.cell? ⟨gc, 1, none⟩ = some (.slice Ab b.length cb) from (blk_cell hx4 1).trans rfl)
  have HCA := Aside0.mk (Kd.C_below (Kd.R_reads' HRA.out).2.2 HB4.out)
  have HCB := Aside0.mk (Kd.C_below (Kd.R_reads' HRB.out).2.2 HB4.out)
  have HLA := Aside0.mk (Kd.R_reads' HRA.out).2.1
  have HLB := Aside0.mk (Kd.R_reads' HRB.out).2.1
  clear hw4 hb4 hx4
  refine start_ (n := 7) (S := fun w' => w'.cell? ⟨gc, 0, none⟩ = some (Value.slice Aa a.length ca) ∧ w'.cell? ⟨gc, 1, none⟩ = some (Value.slice Ab b.length cb)) (ds := []) #[false, false, false, false, false, false, false] (by kernel_rfl) rfl rfl ⟨HX0.out, HX1.out⟩ (fun hHeld => ?_)
  have hHX := hHeld
  generalize w4.drew = wd at HB4 BC4 HX0 HX1 HCA HCB hHeld hHX ⊢
  refine take_ (i := 0) (N := some 18) (v := ?_) (a' := ?_) #[true, false, false, false, false, false, false] rfl rfl (by kernel_rfl) (fun _ _ _ h => h) (Or.inl ⟨by rfl, ?_⟩) hHeld ?_ ?_
  rotate_left
  · rintro w' ⟨s0, s1⟩
    go_simp
    with_reducible rfl
  rotate_left
  · simp only [Act.put, List.setIfInBounds_toArray, List.set_cons_zero, List.set_cons_succ, i64_w, i32_w]
    rfl
  refine take_ (i := 2) (N := some 20) (v := ?_) (a' := ?_) #[true, false, true, false, false, false, false] rfl rfl (by kernel_rfl) (fun _ _ _ h => h) (Or.inl ⟨by rfl, ?_⟩) hHeld ?_ ?_
  rotate_left
  · rintro w' ⟨s0, s1⟩
    go_simp
    with_reducible rfl
  rotate_left
  · simp only [Act.put, List.setIfInBounds_toArray, List.set_cons_zero, List.set_cons_succ, i64_w, i32_w]
    rfl
  refine pure_ (i := 3) (N := some 21) (v := ?_) (a' := ?_) #[true, false, true, true, false, false, false] rfl rfl (by kernel_rfl) (fun _ _ _ h => h) (Or.inl ⟨by rfl, ?_⟩) ?_ ?_
  rotate_left
  · intro w'
    go_simp
    with_reducible rfl
  rotate_left
  · simp only [Act.put, List.setIfInBounds_toArray, List.set_cons_zero, List.set_cons_succ, i64_w, i32_w]
    rfl
  refine join_ (σ := Nat × Nat × Nat) 1 #[true, true, true, true, true, true, false] (fun s => [(19, Value.pointer (some ⟨s.1, 0, none⟩)), (22, Value.pointer (some ⟨s.2.2, 0, none⟩)), (8, Value.pointer (some ⟨s.1, 0, none⟩))]) (fun s w' => Below wd.heap.size wd w' ∧ IsV wd.heap.size w' s.1 s.2.1 a b [] ∧ w'.heap[s.2.2]? = some (.cells #[.slice Aa a.length ca, .slice Ab b.length cb, .slice none ([] : List Int).length 0, .slice none ([] : List Int).length 0] 41 (0, 0)) ∧ wd.heap.size ≤ s.2.2) ?_ ?_
  rotate_left
  · intro hCont
    refine two_ (i := 1) (j := 4) (Ni := some 19) (Nj := some 22) #[true, true, true, true, false, false, false] #[true, false, true, true, true, false, false] rfl rfl rfl rfl (by kernel_rfl) (by decide) (by decide) (fun K hK => ?_) (fun K hK => ?_)
    · skip
      have hn_ := new_calls wd Aa ca a Ab cb b (Kd.C_below HCA.out (Below.refl _ _)) HLA.out (Kd.C_below HCB.out (Below.refl _ _)) HLB.out HA7.out HB7.out
      refine goes_ Try.func21 (by kernel_rfl) rfl #[.agg #[.slice Aa a.length ca, .slice Ab b.length cb]] (by rfl) rfl rfl (by simp only [List.map_toArray, List.map_cons, List.map_nil]; rfl) ?_
      with_reducible refine (hn_).mono ?_
      rintro e_ x1 ⟨gv, gm, rfl, hv_, hs_⟩
      refine ⟨_, rfl, ?_⟩
      have HSx1 := Aside0.mk hs_
      have HBx1 := Aside0.mk (below_then (Below.refl _ _) (Nat.le_refl _) hs_ : Below wd.heap.size wd x1)
      have HVx1 := Aside0.mk (hv_.lower (Nat.le_refl _) : IsV wd.heap.size x1 gv gm a b [])
      clear hv_ hs_ hn_
      refine hK.out _ _ ⟨pw_cell_below HSx1.out (hHeld.1), pw_cell_below HSx1.out (hHeld.2)⟩ (fun hHeld => ?_)
      clear hK K
      refine norm_ (a' := ?_) ?_ ?_
      rotate_left
      · show Act.put _ (some 19) _ = _
        simp only [Act.put, List.setIfInBounds_toArray, List.set_cons_zero, List.set_cons_succ, i64_w, i32_w]
        rfl
      refine pure_ (i := 5) (N := some 8) (v := ?_) (a' := ?_) #[true, true, true, true, false, true, false] rfl rfl (by kernel_rfl) (fun _ _ _ h => h) (Or.inl ⟨by rfl, ?_⟩) ?_ ?_
      rotate_left
      · intro w'
        go_simp
        with_reducible rfl
      rotate_left
      · simp only [Act.put, List.setIfInBounds_toArray, List.set_cons_zero, List.set_cons_succ, i64_w, i32_w]
        rfl
      refine one_ (i := 4) (N := some 22) #[true, true, true, true, true, true, false] rfl rfl (by kernel_rfl) (by decide) (fun K hK => ?_)
      refine value_ (w1 := ?_) (v := ?_) (by rfl) rfl ?_ ?_
      rotate_left 2
      · go_simp
        constructor
        · rfl
        · rfl
      generalize hx_ : World.alloc x1 _ = x4
      have hs_ : Below x1.heap.size x1 x4 := by rw [← hx_]; exact below_alloc (Below.refl _ _) _
      have hh_ : x4.heap[x1.heap.size]? = some (.cells #[.slice Aa a.length ca, .slice Ab b.length cb, .slice none ([] : List Int).length 0, .slice none ([] : List Int).length 0] 41 (0, 0)) := by rw [← hx_]; exact heap_alloc_new _ _
      obtain ⟨gw, hg_⟩ : ∃ q, x1.heap.size = q := ⟨_, rfl⟩
      rw [hg_] at hh_
      try rw [hg_]
      have HGW := Aside0.mk (show wd.heap.size ≤ gw by rw [← hg_]; exact HBx1.out.size)
      have HSx4 := Aside0.mk hs_
      have HBx4 := Aside0.mk (below_then HBx1.out HBx1.out.size hs_ : Below wd.heap.size wd x4)
      have HHx4 := Aside0.mk hh_
      clear hx_ hs_ hh_ hg_
      refine hK.out _ _ ⟨pw_cell_below HSx4.out (hHeld.1), pw_cell_below HSx4.out (hHeld.2)⟩ (fun hHeld => ?_)
      clear hK K
      refine norm_ (a' := ?_) ?_ ?_
      rotate_left
      · show Act.put _ (some 22) _ = _
        simp only [Act.put, List.setIfInBounds_toArray, List.set_cons_zero, List.set_cons_succ, i64_w, i32_w]
        rfl
      exact norm_ (by simp only [putAll, Act.put, List.setIfInBounds_toArray, List.set_cons_zero, List.set_cons_succ]) (hCont (gv, gm, gw) _ ⟨HBx4.out, HVx1.out.below HSx4.out, HHx4.out, HGW.out⟩)
    · skip
      refine value_ (w1 := ?_) (v := ?_) (by rfl) rfl ?_ ?_
      rotate_left 2
      · go_simp
        constructor
        · rfl
        · rfl
      generalize hx_ : World.alloc wd _ = x4
      have hs_ : Below wd.heap.size wd x4 := by rw [← hx_]; exact below_alloc (Below.refl _ _) _
      have hh_ : x4.heap[wd.heap.size]? = some (.cells #[.slice Aa a.length ca, .slice Ab b.length cb, .slice none ([] : List Int).length 0, .slice none ([] : List Int).length 0] 41 (0, 0)) := by rw [← hx_]; exact heap_alloc_new _ _
      obtain ⟨gw, hg_⟩ : ∃ q, wd.heap.size = q := ⟨_, rfl⟩
      rw [hg_] at hh_
      try rw [hg_]
      have HGW := Aside0.mk (show wd.heap.size ≤ gw by rw [← hg_]; exact (Nat.le_refl _))
      have HSx4 := Aside0.mk hs_
      have HBx4 := Aside0.mk (below_then (Below.refl _ _) (Nat.le_refl _) hs_ : Below wd.heap.size wd x4)
      have HHx4 := Aside0.mk hh_
      clear hx_ hs_ hh_ hg_
      refine hK.out _ _ ⟨pw_cell_below HSx4.out (hHeld.1), pw_cell_below HSx4.out (hHeld.2)⟩ (fun hHeld => ?_)
      clear hK K
      refine norm_ (a' := ?_) ?_ ?_
      rotate_left
      · show Act.put _ (some 22) _ = _
        simp only [Act.put, List.setIfInBounds_toArray, List.set_cons_zero, List.set_cons_succ, i64_w, i32_w]
        rfl
      refine one_ (i := 1) (N := some 19) #[true, true, true, true, true, false, false] rfl rfl (by kernel_rfl) (by decide) (fun K hK => ?_)
      have hn_ := new_calls x4 Aa ca a Ab cb b (Kd.C_below HCA.out HBx4.out) HLA.out (Kd.C_below HCB.out HBx4.out) HLB.out HA7.out HB7.out
      refine goes_ Try.func21 (by kernel_rfl) rfl #[.agg #[.slice Aa a.length ca, .slice Ab b.length cb]] (by rfl) rfl rfl (by simp only [List.map_toArray, List.map_cons, List.map_nil]; rfl) ?_
      with_reducible refine (hn_).mono ?_
      rintro e_ x1 ⟨gv, gm, rfl, hv_, hs_⟩
      refine ⟨_, rfl, ?_⟩
      have HSx1 := Aside0.mk hs_
      have HBx1 := Aside0.mk (below_then HBx4.out HBx4.out.size hs_ : Below wd.heap.size wd x1)
      have HVx1 := Aside0.mk (hv_.lower HBx4.out.size : IsV wd.heap.size x1 gv gm a b [])
      clear hv_ hs_ hn_
      refine hK.out _ _ ⟨pw_cell_below HSx1.out (hHeld.1), pw_cell_below HSx1.out (hHeld.2)⟩ (fun hHeld => ?_)
      clear hK K
      refine norm_ (a' := ?_) ?_ ?_
      rotate_left
      · show Act.put _ (some 19) _ = _
        simp only [Act.put, List.setIfInBounds_toArray, List.set_cons_zero, List.set_cons_succ, i64_w, i32_w]
        rfl
      refine pure_ (i := 5) (N := some 8) (v := ?_) (a' := ?_) #[true, true, true, true, true, true, false] rfl rfl (by kernel_rfl) (fun _ _ _ h => h) (Or.inl ⟨by rfl, ?_⟩) ?_ ?_
      rotate_left
      · intro w'
        go_simp
        with_reducible rfl
      rotate_left
      · simp only [Act.put, List.setIfInBounds_toArray, List.set_cons_zero, List.set_cons_succ, i64_w, i32_w]
        rfl
      exact norm_ (by simp only [putAll, Act.put, List.setIfInBounds_toArray, List.set_cons_zero, List.set_cons_succ]) (hCont (gv, gm, gw) _ ⟨HBx1.out, HVx1.out, blk_below HHx4.out HSx1.out, HGW.out⟩)
  rintro ⟨gv, gm, gw⟩ w5 ⟨hb5, hv5, hh5, hg5⟩
  dsimp only at hv5 hh5 hg5
  have HB5 := Aside0.mk hb5
  have HV5 := Aside0.mk hv5
  have HH5 := Aside0.mk hh5
  have HG5 := Aside0.mk hg5
  clear hb5 hv5 hh5 hg5
  have hHeld : w5.cell? ⟨gc, 0, none⟩ = some (Value.slice Aa a.length ca) ∧ w5.cell? ⟨gc, 1, none⟩ = some (Value.slice Ab b.length cb) := ⟨pw_cell_below HB5.out (hHX.1), pw_cell_below HB5.out (hHX.2)⟩
  refine norm_ (a' := ?_) ?_ ?_
  rotate_left
  · simp only [putAll, Act.put, List.setIfInBounds_toArray, List.set_cons_zero, List.set_cons_succ]
    rfl
  refine pure_ (i := 6) (N := some 9) (v := ?_) (a' := ?_) #[true, true, true, true, true, true, true] rfl rfl (by kernel_rfl) (fun _ _ _ h => h) (Or.inl ⟨by rfl, ?_⟩) ?_ ?_
  rotate_left
  · intro w'
    go_simp
    with_reducible rfl
  rotate_left
  · simp only [Act.put, List.setIfInBounds_toArray, List.set_cons_zero, List.set_cons_succ, i64_w, i32_w]
    rfl
  refine done_ (by kernel_rfl) ?_
  have hz1 := HBK.out.size
  have hz3 := HB3.out.size
  have hz4 := HB4.out.size
  have hz5 := HB5.out.size
  have hg5 := HG5.out
  obtain ⟨Z, hZ⟩ : ∃ Z, w5.heap.size = Z := ⟨_, rfl⟩
  have hrz : ∀ (ok : Nat → Prop) (v : Value) (l : List Int), Kd.R (Kd.int .i64) 3 w3 w1.heap.size ok v l → Rz w.heap.size Z w5 v l := fun ok v l h =>
    Kd.R_mono (Kd.R_bound (Kd.R_below (Kd.R_below (Kd.R_lower h hz1) HB4.out) HB5.out)) (fun q hq => by rw [← hZ]; exact hq.2.2.1)
  have bc5 := blk_below BC4.out HB5.out
  have hgcz : gc < Z := by rw [← hZ]; exact blk_lt bc5
  have hgwz : gw < Z := by rw [← hZ]; exact blk_lt HH5.out
  have HCW : Aside0 (Cz w.heap.size Z w5 gc Aa ca a Ab cb b) := ⟨⟨bc5, hrz _ _ _ HRA.out, hrz _ _ _ HRB.out, hgcz⟩⟩
  have HVW : Aside0 (Vz w.heap.size Z w5 gv gm a b []) := ⟨by rw [← hZ]; exact (HV5.out.lower (by omega)).toVz⟩
  have HWW : Aside0 (Wz w.heap.size Z w5 gw a b [] []) := ⟨⟨Aa, ca, Ab, cb, none, 0, none, 0, HH5.out, hrz _ _ _ HRA.out, hrz _ _ _ HRB.out, Kd.R_nil _ _ _ _ _, Kd.R_nil _ _ _ _ _, hgwz, by omega, by rw [hZ]; exact Nat.le_refl _⟩⟩
  have HGE := Aside0.mk (show w.heap.size ≤ gm ∧ w.heap.size ≤ gw ∧ w.heap.size ≤ Z from ⟨by obtain ⟨_, _, _, _, _, _, _, _, _, h, _⟩ := HVW.out; exact h, by omega, by omega⟩)
  have HBW := Aside0.mk (show Below w.heap.size w w5 from below_then (below_then (below_then HBK.out hz1 HB3.out) (by omega) HB4.out) (by omega) HB5.out)
  clear hz1 hz3 hz4 hz5 hg5 hZ hrz bc5 hgcz hgwz HBK HB3 HB4 HB5 HRA HRB BC4 HV5 HH5 HG5 HX0 HX1 HCA HCB hgc
  go_wp2
  go_loopw [10] (fun v10 wr => ∃ (i : Nat) (vs : List (Int × Bool)) (yes no : List Int), v10 = .int .i64 (i : Int) ∧ i ≤ l2.length ∧ i ≤ 40 ∧ Aside0 (Inv a b vs yes no) ∧ Aside0 (vs.length ≤ i ∧ yes.length ≤ i ∧ no.length ≤ i) ∧
      Aside0 (Vz w.heap.size Z wr gv gm a b vs) ∧ Aside0 (Wz w.heap.size Z wr gw a b yes no) ∧ Aside0 (Cz w.heap.size Z wr gc Aa ca a Ab cb b) ∧ Aside0 (Below w.heap.size w wr))
    (fun v10 _ => 40 - (intOf v10).toNat)
  case atStart => exact ⟨0, [], [], [], rfl, Nat.zero_le _, by omega, ⟨Inv.start a b⟩, ⟨⟨Nat.le_refl _, Nat.le_refl _, Nat.le_refl _⟩⟩, HVW, HWW, HCW, HBW⟩
  case round =>
    obtain ⟨i, vs, yes, no, rfl, hi, hi40, HI, HLL, HV, HW, HC, HB⟩ := hrel
    clear HVW HWW HCW HBW
    have hwi : wrap64 ((i : Int) + 1) = (i : Int) + 1 := by unfold wrap64; omega
    by_cases hli : i < l2.length
    case neg =>
      have hq := eq_false (show ¬ (i : Int) < (l2.length : Int) by omega)
      have cq0 : wr.cell? ⟨gc, 0, none⟩ = some (.slice Aa a.length ca) := (blk_cell HC.out.1 0).trans rfl
      have cq1 : wr.cell? ⟨gc, 1, none⟩ = some (.slice Ab b.length cb) := (blk_cell HC.out.1 1).trans rfl
      have hra := Kd.R_reads' HC.out.2.1
      have hrb := Kd.R_reads' HC.out.2.2.1
      obtain ⟨ms, hms⟩ : ∃ ms, mem8 a b 9 = ms := ⟨_, rfl⟩
      have HMS := Aside0.mk (show synodalref8_Members.f 1010 a b = some ms by rw [members8_f a b HA7.out HB7.out, hms])
      have HME := Aside0.mk (show ∀ x, x ∈ ms ↔ (x ∈ a ∨ x ∈ b) from fun x => by rw [← hms, mem8_mem]; exact ⟨fun h => h.2, fun h => ⟨by have := HBX.out x h; omega, h⟩⟩)
      have HML := Aside0.mk (show ms.length ≤ 9 by rw [← hms]; exact mem8_le a b 9)
      have HRA := Aside0.mk hra
      have HRB := Aside0.mk hrb
      have HVQ := Aside0.mk HV.out.isV
      have HIS := Aside0.mk HI.out.2.2
      have HLVQ := Aside0.mk (show vs.length ≤ 40 by have := HLL.out.1; omega)
      clear hra hrb hms HI HV HW HC HLL
      go_wp2_with (first
        | (go_at_call 28; refine (synodalref8_Members.calls 1010 Aa ca a Ab cb b ms _ HRA.out.2.2 HRA.out.2.1 HRB.out.2.2 HRB.out.2.1 HMS.out).mono ?_; rintro e_ w6 ⟨v0_, rfl, hr_, hb_⟩; obtain ⟨Am, cm, e0_⟩ := Kd.R_slice hr_; subst e0_; have HRM := Aside0.mk (Kd.R_lower hr_ HB.out.size : Kd.R (Kd.int .i64) 3 w6 w.heap.size (fun _ => True) (.slice Am ms.length cm) ms); have HB6 := Aside0.mk (below_then HB.out HB.out.size hb_); have HV6 := Aside0.mk (HVQ.out.below hb_); clear hr_ hb_)
        | go_in)
      clear HVQ HB HRA HRB cq0 cq1
      go_loopw [12] (fun v12 wq => ∃ (j : Nat) (us : List (Int × Bool)), v12 = .int .i64 (j : Int) ∧ j ≤ ms.length ∧ Aside0 (∀ x ∈ vids us, x ∈ a ∨ x ∈ b) ∧ Aside0 (∀ x ∈ ms.take j, x ∈ vids us) ∧ Aside0 (us.length ≤ 40 + j) ∧ Aside0 (IsV w.heap.size wq gv gm a b us) ∧ Aside0 (Kd.R (Kd.int .i64) 3 wq w.heap.size (fun _ => True) (.slice Am ms.length cm) ms) ∧ Aside0 (Below w.heap.size w wq))
        (fun v12 _ => ms.length - (intOf v12).toNat)
      case atStart => exact ⟨0, vs, rfl, Nat.zero_le _, HIS, ⟨fun x hx => by simp at hx⟩, HLVQ, HV6, HRM, HB6⟩
      case round =>
        obtain ⟨j, us, rfl, hj, HUS, HUA, HUL, HU, HR, HB⟩ := hrel
        have hwj : wrap64 ((j : Int) + 1) = (j : Int) + 1 := by have := HML.out; unfold wrap64; omega
        clear HIS HLVQ HV6 HRM HB6
        by_cases hlt : j < ms.length
        · obtain ⟨x, hx⟩ : ∃ x, ms[j] = x := ⟨_, rfl⟩
          have htk : ms.take (j + 1) = ms.take j ++ [x] := by rw [List.take_succ_eq_append_getElem hlt, hx]
          have hxi : x ∈ a ∨ x ∈ b := (HME.out x).1 (by rw [← hx]; exact List.getElem_mem hlt)
          have HXI := Aside0.mk hxi
          have hx9 := HBX.out x hxi
          have HWX := Aside0.mk (wf_small x hx9.1 hx9.2)
          obtain ⟨ad, e2, hx1⟩ := Kd.at_int (Kd.R_reads' HR.out).2.2 (j : Int) (by omega) (by omega)
          subst e2
          rw [Int.toNat_natCast, show rd ms (j : Int) = x by unfold rd; simp [List.getD, hlt, hx]] at hx1
          have HTK := Aside0.mk htk
          have hq := eq_true (show (j : Int) < (ms.length : Int) by omega)
          have hq0 := eq_true (show 0 ≤ (j : Int) by omega)
          have HU1 := Aside0.mk (show us.length ≤ 1000 by have := HUL.out; have := HML.out; omega)
          clear htk hx hxi hx9
          go_wp2_with (first
            | (go_at_call 22; refine (add_calls HU.out HA7.out HB7.out HU1.out x false HWX.out).mono ?_; rintro e_ w7 ⟨rfl, hk7, hv7⟩; have HK7 := Aside0.mk hk7; have HV7 := Aside0.mk hv7; clear hk7 hv7)
            | go_in)
          go_roundw
          case rel =>
            refine ⟨j + 1, addTo a b us x false, by first | rfl | (rw [hwj]; rfl), hlt, ⟨vids_addTo_sub a b us x false HUS.out⟩, ⟨fun z hz => ?_⟩, ⟨by have h1 := addTo_le a b us x false; have h2 := HUL.out; omega⟩, HV7, ⟨R_map HR.out HK7.out HU.out.map⟩, ⟨below_kept HB.out HB.out.size (fun k hk => by subst hk; exact HGE.out.1) HK7.out⟩⟩
            rw [HTK.out, List.mem_append] at hz
            rcases hz with hz | hz
            · exact vids_addTo a b us x false z (HUA.out z hz)
            · simp only [List.mem_singleton] at hz
              subst hz
              exact vids_addTo_new a b us z false HXI.out
          case measure => exact meas_step_ hlt (by first | rfl | exact hwj)
        · have hq := eq_false (show ¬ (j : Int) < (ms.length : Int) by omega)
          have hjl : j = ms.length := by omega
          subst hjl
          rw [List.take_length] at HUA
          have hall := all_in a b us HUS.out (fun x hx => HUA.out x ((HME.out x).2 hx))
          have hw_ := won_calls HU.out HA7.out HB7.out (by have := HUL.out; have := HML.out; omega)
          have hl_ : ∀ w7, Below wr.heap.size wr w7 → Calls Try.prog 26 #[.pointer (some ⟨gv, 0, none⟩)] w7 (BoolPost w7 (!CP.quorum a b (yesV us))) := fun w7 h7 => by
            have h := lost_calls (HU.out.below h7) HA7.out HB7.out HB1.out HMW.out
            rw [hall] at h
            exact h
          have HL_ := Aside0.mk hl_
          have HW_ := Aside0.mk hw_
          clear hw_ hl_ hall
          cases hv : CP.quorum a b (yesV us)
          · rw [hv] at HW_ HL_
            clear hv
            go_wp2_with (first
              | (go_at_call 24; refine HW_.out.mono ?_; rintro e_ w7 ⟨rfl, hb7⟩; have HB7_ := Aside0.mk hb7; clear hb7)
              | (go_at_call 26; refine (HL_.out _ HB7_.out).mono ?_; rintro e_ w8 ⟨rfl, hb8⟩; have HB8_ := Aside0.mk hb8; clear hb8)
              | go_in)
            go_ret
            exact ⟨rfl, below_then (below_then HB.out HB.out.size HB7_.out) (Nat.le_trans HB.out.size HB7_.out.size) HB8_.out⟩
          · rw [hv] at HW_ HL_
            clear hv
            go_wp2_with (first
              | (go_at_call 24; refine HW_.out.mono ?_; rintro e_ w7 ⟨rfl, hb7⟩; have HB7_ := Aside0.mk hb7; clear hb7)
              | (go_at_call 26; refine (HL_.out _ HB7_.out).mono ?_; rintro e_ w8 ⟨rfl, hb8⟩; have HB8_ := Aside0.mk hb8; clear hb8)
              | go_in)
            go_ret
            exact ⟨rfl, below_then (below_then HB.out HB.out.size HB7_.out) (Nat.le_trans HB.out.size HB7_.out.size) HB8_.out⟩
    case pos =>
      by_cases hl40 : i < 40
      case neg =>
        have hq := eq_true (show (i : Int) < (l2.length : Int) by omega)
        have hq2 := eq_false (show ¬ (i : Int) < 40 by omega)
        have cq0 : wr.cell? ⟨gc, 0, none⟩ = some (.slice Aa a.length ca) := (blk_cell HC.out.1 0).trans rfl
        have cq1 : wr.cell? ⟨gc, 1, none⟩ = some (.slice Ab b.length cb) := (blk_cell HC.out.1 1).trans rfl
        have hra := Kd.R_reads' HC.out.2.1
        have hrb := Kd.R_reads' HC.out.2.2.1
        obtain ⟨ms, hms⟩ : ∃ ms, mem8 a b 9 = ms := ⟨_, rfl⟩
        have HMS := Aside0.mk (show synodalref8_Members.f 1010 a b = some ms by rw [members8_f a b HA7.out HB7.out, hms])
        have HME := Aside0.mk (show ∀ x, x ∈ ms ↔ (x ∈ a ∨ x ∈ b) from fun x => by rw [← hms, mem8_mem]; exact ⟨fun h => h.2, fun h => ⟨by have := HBX.out x h; omega, h⟩⟩)
        have HML := Aside0.mk (show ms.length ≤ 9 by rw [← hms]; exact mem8_le a b 9)
        have HRA := Aside0.mk hra
        have HRB := Aside0.mk hrb
        have HVQ := Aside0.mk HV.out.isV
        have HIS := Aside0.mk HI.out.2.2
        have HLVQ := Aside0.mk (show vs.length ≤ 40 by have := HLL.out.1; omega)
        clear hra hrb hms HI HV HW HC HLL
        go_wp2_with (first
          | (go_at_call 28; refine (synodalref8_Members.calls 1010 Aa ca a Ab cb b ms _ HRA.out.2.2 HRA.out.2.1 HRB.out.2.2 HRB.out.2.1 HMS.out).mono ?_; rintro e_ w6 ⟨v0_, rfl, hr_, hb_⟩; obtain ⟨Am, cm, e0_⟩ := Kd.R_slice hr_; subst e0_; have HRM := Aside0.mk (Kd.R_lower hr_ HB.out.size : Kd.R (Kd.int .i64) 3 w6 w.heap.size (fun _ => True) (.slice Am ms.length cm) ms); have HB6 := Aside0.mk (below_then HB.out HB.out.size hb_); have HV6 := Aside0.mk (HVQ.out.below hb_); clear hr_ hb_)
          | go_in)
        clear HVQ HB HRA HRB cq0 cq1
        go_loopw [12] (fun v12 wq => ∃ (j : Nat) (us : List (Int × Bool)), v12 = .int .i64 (j : Int) ∧ j ≤ ms.length ∧ Aside0 (∀ x ∈ vids us, x ∈ a ∨ x ∈ b) ∧ Aside0 (∀ x ∈ ms.take j, x ∈ vids us) ∧ Aside0 (us.length ≤ 40 + j) ∧ Aside0 (IsV w.heap.size wq gv gm a b us) ∧ Aside0 (Kd.R (Kd.int .i64) 3 wq w.heap.size (fun _ => True) (.slice Am ms.length cm) ms) ∧ Aside0 (Below w.heap.size w wq))
          (fun v12 _ => ms.length - (intOf v12).toNat)
        case atStart => exact ⟨0, vs, rfl, Nat.zero_le _, HIS, ⟨fun x hx => by simp at hx⟩, HLVQ, HV6, HRM, HB6⟩
        case round =>
          obtain ⟨j, us, rfl, hj, HUS, HUA, HUL, HU, HR, HB⟩ := hrel
          have hwj : wrap64 ((j : Int) + 1) = (j : Int) + 1 := by have := HML.out; unfold wrap64; omega
          clear HIS HLVQ HV6 HRM HB6
          by_cases hlt : j < ms.length
          · obtain ⟨x, hx⟩ : ∃ x, ms[j] = x := ⟨_, rfl⟩
            have htk : ms.take (j + 1) = ms.take j ++ [x] := by rw [List.take_succ_eq_append_getElem hlt, hx]
            have hxi : x ∈ a ∨ x ∈ b := (HME.out x).1 (by rw [← hx]; exact List.getElem_mem hlt)
            have HXI := Aside0.mk hxi
            have hx9 := HBX.out x hxi
            have HWX := Aside0.mk (wf_small x hx9.1 hx9.2)
            obtain ⟨ad, e2, hx1⟩ := Kd.at_int (Kd.R_reads' HR.out).2.2 (j : Int) (by omega) (by omega)
            subst e2
            rw [Int.toNat_natCast, show rd ms (j : Int) = x by unfold rd; simp [List.getD, hlt, hx]] at hx1
            have HTK := Aside0.mk htk
            have hq := eq_true (show (j : Int) < (ms.length : Int) by omega)
            have hq0 := eq_true (show 0 ≤ (j : Int) by omega)
            have HU1 := Aside0.mk (show us.length ≤ 1000 by have := HUL.out; have := HML.out; omega)
            clear htk hx hxi hx9
            go_wp2_with (first
              | (go_at_call 22; refine (add_calls HU.out HA7.out HB7.out HU1.out x false HWX.out).mono ?_; rintro e_ w7 ⟨rfl, hk7, hv7⟩; have HK7 := Aside0.mk hk7; have HV7 := Aside0.mk hv7; clear hk7 hv7)
              | go_in)
            go_roundw
            case rel =>
              refine ⟨j + 1, addTo a b us x false, by first | rfl | (rw [hwj]; rfl), hlt, ⟨vids_addTo_sub a b us x false HUS.out⟩, ⟨fun z hz => ?_⟩, ⟨by have h1 := addTo_le a b us x false; have h2 := HUL.out; omega⟩, HV7, ⟨R_map HR.out HK7.out HU.out.map⟩, ⟨below_kept HB.out HB.out.size (fun k hk => by subst hk; exact HGE.out.1) HK7.out⟩⟩
              rw [HTK.out, List.mem_append] at hz
              rcases hz with hz | hz
              · exact vids_addTo a b us x false z (HUA.out z hz)
              · simp only [List.mem_singleton] at hz
                subst hz
                exact vids_addTo_new a b us z false HXI.out
            case measure => exact meas_step_ hlt (by first | rfl | exact hwj)
          · have hq := eq_false (show ¬ (j : Int) < (ms.length : Int) by omega)
            have hjl : j = ms.length := by omega
            subst hjl
            rw [List.take_length] at HUA
            have hall := all_in a b us HUS.out (fun x hx => HUA.out x ((HME.out x).2 hx))
            have hw_ := won_calls HU.out HA7.out HB7.out (by have := HUL.out; have := HML.out; omega)
            have hl_ : ∀ w7, Below wr.heap.size wr w7 → Calls Try.prog 26 #[.pointer (some ⟨gv, 0, none⟩)] w7 (BoolPost w7 (!CP.quorum a b (yesV us))) := fun w7 h7 => by
              have h := lost_calls (HU.out.below h7) HA7.out HB7.out HB1.out HMW.out
              rw [hall] at h
              exact h
            have HL_ := Aside0.mk hl_
            have HW_ := Aside0.mk hw_
            clear hw_ hl_ hall
            cases hv : CP.quorum a b (yesV us)
            · rw [hv] at HW_ HL_
              clear hv
              go_wp2_with (first
                | (go_at_call 24; refine HW_.out.mono ?_; rintro e_ w7 ⟨rfl, hb7⟩; have HB7_ := Aside0.mk hb7; clear hb7)
                | (go_at_call 26; refine (HL_.out _ HB7_.out).mono ?_; rintro e_ w8 ⟨rfl, hb8⟩; have HB8_ := Aside0.mk hb8; clear hb8)
                | go_in)
              go_ret
              exact ⟨rfl, below_then (below_then HB.out HB.out.size HB7_.out) (Nat.le_trans HB.out.size HB7_.out.size) HB8_.out⟩
            · rw [hv] at HW_ HL_
              clear hv
              go_wp2_with (first
                | (go_at_call 24; refine HW_.out.mono ?_; rintro e_ w7 ⟨rfl, hb7⟩; have HB7_ := Aside0.mk hb7; clear hb7)
                | (go_at_call 26; refine (HL_.out _ HB7_.out).mono ?_; rintro e_ w8 ⟨rfl, hb8⟩; have HB8_ := Aside0.mk hb8; clear hb8)
                | go_in)
              go_ret
              exact ⟨rfl, below_then (below_then HB.out HB.out.size HB7_.out) (Nat.le_trans HB.out.size HB7_.out.size) HB8_.out⟩
      case pos =>
        have hq := eq_true (show (i : Int) < (l2.length : Int) by omega)
        have hq2 := eq_true (show (i : Int) < 40 by omega)
        have hq3 := eq_true (show i < l2.length from hli)
        have hq4 := eq_true (show 0 ≤ (i : Int) by omega)
        obtain ⟨x, hx⟩ : ∃ x, (l2[i]).f0 = x := ⟨_, rfl⟩
        obtain ⟨y, hy⟩ : ∃ y, (l2[i]).f1 = y := ⟨_, rfl⟩
        have HWX := Aside0.mk (show (Lit.int .i64 x).wf = true by rw [← hx]; exact HWF.out _ (List.getElem_mem hli))
        obtain ⟨ad, e2, hp0, hp1⟩ := at_k44 HCP.out i hli hli
        subst e2
        rw [hx] at hp0
        rw [hy] at hp1
        have HP0 := Aside0.mk hp0
        have HP1 := Aside0.mk hp1
        have HBD := Aside0.mk (below_drew HB.out)
        have hbd := below_drew (Below.refl wr.heap.size wr)
        have HVD := Aside0.mk (HV.out.below hbd)
        have HWD := Aside0.mk (HW.out.below hbd)
        have HCD := Aside0.mk (HC.out.below hbd)
        have HX0 := Aside0.mk (pw_cell_below HBD.out hp0)
        have HX1 := Aside0.mk (pw_cell_below HBD.out hp1)
        have HI1 := Aside0.mk (HI.out.step x y)
        have HRK := Aside0.mk (HI.out.ok x)
        have hll := HLL.out
        have HL0 := Aside0.mk (show vs.length ≤ 1000 by omega)
        have HL1 := Aside0.mk (show yes.length ≤ 1000 by omega)
        have HL2 := Aside0.mk (show no.length ≤ 1000 by omega)
        have hl3 := addTo_le a b vs x y
        have hl4 := rYes_le a b yes no x y
        have hl5 := rNo_le a b yes no x y
        have HLT := Aside0.mk (show (addTo a b vs x y).length ≤ i + 1 ∧ (rYes a b yes no x y).length ≤ i + 1 ∧ (rNo a b yes no x y).length ≤ i + 1 from ⟨by omega, by omega, by omega⟩)
        have HLV := Aside0.mk (show (addTo a b vs x y).length ≤ 1000 by omega)
        have HLY := Aside0.mk (show (rYes a b yes no x y).length ≤ 1000 by omega)
        have HLN := Aside0.mk (show (rNo a b yes no x y).length ≤ 1000 by omega)
        obtain ⟨bo, hbo⟩ : ∃ bo, addOk a b vs x = bo := ⟨_, rfl⟩
        have HOK := Aside0.mk hbo
        rw [hbo] at HRK
        have hno : (bo != bo) = false := by cases bo <;> rfl
        clear hx hy hp0 hp1 hbd hll hl3 hl4 hl5 hbo HI HLL HV HW HC HB
        go_upto_region 8 with (fail)
        cases hqw : CP.quorum a b (yesV (addTo a b vs x y))
        case true =>
          have HQW := Aside0.mk (show CP.quorum a b (yesV (addTo a b vs x y)) = true from hqw)
          have HQR := Aside0.mk (show CP.quorum a b (rYes a b yes no x y) = true by rw [HI1.out.won]; exact hqw)
          have hql : (!CP.quorum a b (lostL (addTo a b vs x y) (Mem.members a b))) = false := by rw [never_both a b _ HI1.out.2.2 hqw]; rfl
          have HQL := Aside0.mk hql
          have HQS := Aside0.mk (show (!CP.quorum a b (leftR (rNo a b yes no x y) (mem8 a b 9))) = false by rw [HI1.out.lost HBX.out]; exact hql)
          clear hql hqw
          refine start_ (n := 47) (S := fun w' => w'.cell? (ad.add (i * 2)) = some (Value.int .i64 x) ∧ w'.cell? ⟨(ad.add (i * 2)).block, (ad.add (i * 2)).off + 1, none⟩ = some (Value.bool y)) (ds := []) #[false, false, false, false, false, false, false, false, false, false, false, false, false, false, false, false, false, false, false, false, false, false, false, false, false, false, false, false, false, false, false, false, false, false, false, false, false, false, false, false, false, false, false, false, false, false, false] (by kernel_rfl) rfl rfl ⟨HX0.out, HX1.out⟩ (fun hHeld => ?_)
          have hHX := hHeld
          generalize wr.drew = wd at HVD HWD HCD HBD HX0 HX1 hHeld hHX ⊢
          refine pure_ (i := 0) (N := some 33) (v := ?_) (a' := ?_) #[true, false, false, false, false, false, false, false, false, false, false, false, false, false, false, false, false, false, false, false, false, false, false, false, false, false, false, false, false, false, false, false, false, false, false, false, false, false, false, false, false, false, false, false, false, false, false] rfl rfl (by kernel_rfl) (fun _ _ _ h => h) (Or.inl ⟨by rfl, ?_⟩) ?_ ?_
          rotate_left
          · intro w'
            go_simp
            with_reducible rfl
          rotate_left
          · simp only [Act.put, List.setIfInBounds_toArray, List.set_cons_zero, List.set_cons_succ, i64_w, i32_w]
            rfl
          refine pure_ (i := 1) (N := some 34) (v := ?_) (a' := ?_) #[true, true, false, false, false, false, false, false, false, false, false, false, false, false, false, false, false, false, false, false, false, false, false, false, false, false, false, false, false, false, false, false, false, false, false, false, false, false, false, false, false, false, false, false, false, false, false] rfl rfl (by kernel_rfl) (fun _ _ _ h => h) (Or.inl ⟨by rfl, ?_⟩) ?_ ?_
          rotate_left
          · intro w'
            go_simp
            with_reducible rfl
          rotate_left
          · simp only [Act.put, List.setIfInBounds_toArray, List.set_cons_zero, List.set_cons_succ, i64_w, i32_w]
            rfl
          refine pure_ (i := 2) (N := some 35) (v := ?_) (a' := ?_) #[true, true, true, false, false, false, false, false, false, false, false, false, false, false, false, false, false, false, false, false, false, false, false, false, false, false, false, false, false, false, false, false, false, false, false, false, false, false, false, false, false, false, false, false, false, false, false] rfl rfl (by kernel_rfl) (fun _ _ _ h => h) (Or.inl ⟨by rfl, ?_⟩) ?_ ?_
          rotate_left
          · intro w'
            go_simp
            with_reducible rfl
          rotate_left
          · simp only [Act.put, List.setIfInBounds_toArray, List.set_cons_zero, List.set_cons_succ, i64_w, i32_w]
            rfl
          refine pure_ (i := 3) (N := some 36) (v := ?_) (a' := ?_) #[true, true, true, true, false, false, false, false, false, false, false, false, false, false, false, false, false, false, false, false, false, false, false, false, false, false, false, false, false, false, false, false, false, false, false, false, false, false, false, false, false, false, false, false, false, false, false] rfl rfl (by kernel_rfl) (fun _ _ _ h => h) (Or.inl ⟨by rfl, ?_⟩) ?_ ?_
          rotate_left
          · intro w'
            go_simp
            with_reducible rfl
          rotate_left
          · simp only [Act.put, List.setIfInBounds_toArray, List.set_cons_zero, List.set_cons_succ, i64_w, i32_w]
            rfl
          refine pure_ (i := 4) (N := some 37) (v := ?_) (a' := ?_) #[true, true, true, true, true, false, false, false, false, false, false, false, false, false, false, false, false, false, false, false, false, false, false, false, false, false, false, false, false, false, false, false, false, false, false, false, false, false, false, false, false, false, false, false, false, false, false] rfl rfl (by kernel_rfl) (fun _ _ _ h => h) (Or.inl ⟨by rfl, ?_⟩) ?_ ?_
          rotate_left
          · intro w'
            go_simp
            with_reducible rfl
          rotate_left
          · simp only [Act.put, List.setIfInBounds_toArray, List.set_cons_zero, List.set_cons_succ, i64_w, i32_w]
            rfl
          refine pure_ (i := 6) (N := some 39) (v := ?_) (a' := ?_) #[true, true, true, true, true, false, true, false, false, false, false, false, false, false, false, false, false, false, false, false, false, false, false, false, false, false, false, false, false, false, false, false, false, false, false, false, false, false, false, false, false, false, false, false, false, false, false] rfl rfl (by kernel_rfl) (fun _ _ _ h => h) (Or.inl ⟨by rfl, ?_⟩) ?_ ?_
          rotate_left
          · intro w'
            go_simp
            with_reducible rfl
          rotate_left
          · simp only [Act.put, List.setIfInBounds_toArray, List.set_cons_zero, List.set_cons_succ, i64_w, i32_w]
            rfl
          refine pure_ (i := 7) (N := some 40) (v := ?_) (a' := ?_) #[true, true, true, true, true, false, true, true, false, false, false, false, false, false, false, false, false, false, false, false, false, false, false, false, false, false, false, false, false, false, false, false, false, false, false, false, false, false, false, false, false, false, false, false, false, false, false] rfl rfl (by kernel_rfl) (fun _ _ _ h => h) (Or.inl ⟨by rfl, ?_⟩) ?_ ?_
          rotate_left
          · intro w'
            go_simp
            with_reducible rfl
          rotate_left
          · simp only [Act.put, List.setIfInBounds_toArray, List.set_cons_zero, List.set_cons_succ, i64_w, i32_w]
            rfl
          refine pure_ (i := 8) (N := some 41) (v := ?_) (a' := ?_) #[true, true, true, true, true, false, true, true, true, false, false, false, false, false, false, false, false, false, false, false, false, false, false, false, false, false, false, false, false, false, false, false, false, false, false, false, false, false, false, false, false, false, false, false, false, false, false] rfl rfl (by kernel_rfl) (fun _ _ _ h => h) (Or.inl ⟨by rfl, ?_⟩) ?_ ?_
          rotate_left
          · intro w'
            go_simp
            with_reducible rfl
          rotate_left
          · simp only [Act.put, List.setIfInBounds_toArray, List.set_cons_zero, List.set_cons_succ, i64_w, i32_w]
            rfl
          refine pure_ (i := 9) (N := some 42) (v := ?_) (a' := ?_) #[true, true, true, true, true, false, true, true, true, true, false, false, false, false, false, false, false, false, false, false, false, false, false, false, false, false, false, false, false, false, false, false, false, false, false, false, false, false, false, false, false, false, false, false, false, false, false] rfl rfl (by kernel_rfl) (fun _ _ _ h => h) (Or.inl ⟨by rfl, ?_⟩) ?_ ?_
          rotate_left
          · intro w'
            go_simp
            with_reducible rfl
          rotate_left
          · simp only [Act.put, List.setIfInBounds_toArray, List.set_cons_zero, List.set_cons_succ, i64_w, i32_w]
            rfl
          refine pure_ (i := 12) (N := some 45) (v := ?_) (a' := ?_) #[true, true, true, true, true, false, true, true, true, true, false, false, true, false, false, false, false, false, false, false, false, false, false, false, false, false, false, false, false, false, false, false, false, false, false, false, false, false, false, false, false, false, false, false, false, false, false] rfl rfl (by kernel_rfl) (fun _ _ _ h => h) (Or.inl ⟨by rfl, ?_⟩) ?_ ?_
          rotate_left
          · intro w'
            go_simp
            with_reducible rfl
          rotate_left
          · simp only [Act.put, List.setIfInBounds_toArray, List.set_cons_zero, List.set_cons_succ, i64_w, i32_w]
            rfl
          refine pure_ (i := 13) (N := some 46) (v := ?_) (a' := ?_) #[true, true, true, true, true, false, true, true, true, true, false, false, true, true, false, false, false, false, false, false, false, false, false, false, false, false, false, false, false, false, false, false, false, false, false, false, false, false, false, false, false, false, false, false, false, false, false] rfl rfl (by kernel_rfl) (fun _ _ _ h => h) (Or.inl ⟨by rfl, ?_⟩) ?_ ?_
          rotate_left
          · intro w'
            go_simp
            with_reducible rfl
          rotate_left
          · simp only [Act.put, List.setIfInBounds_toArray, List.set_cons_zero, List.set_cons_succ, i64_w, i32_w]
            rfl
          refine pure_ (i := 14) (N := some 47) (v := ?_) (a' := ?_) #[true, true, true, true, true, false, true, true, true, true, false, false, true, true, true, false, false, false, false, false, false, false, false, false, false, false, false, false, false, false, false, false, false, false, false, false, false, false, false, false, false, false, false, false, false, false, false] rfl rfl (by kernel_rfl) (fun _ _ _ h => h) (Or.inl ⟨by rfl, ?_⟩) ?_ ?_
          rotate_left
          · intro w'
            go_simp
            with_reducible rfl
          rotate_left
          · simp only [Act.put, List.setIfInBounds_toArray, List.set_cons_zero, List.set_cons_succ, i64_w, i32_w]
            rfl
          refine pure_ (i := 15) (N := some 48) (v := ?_) (a' := ?_) #[true, true, true, true, true, false, true, true, true, true, false, false, true, true, true, true, false, false, false, false, false, false, false, false, false, false, false, false, false, false, false, false, false, false, false, false, false, false, false, false, false, false, false, false, false, false, false] rfl rfl (by kernel_rfl) (fun _ _ _ h => h) (Or.inl ⟨by rfl, ?_⟩) ?_ ?_
          rotate_left
          · intro w'
            go_simp
            with_reducible rfl
          rotate_left
          · simp only [Act.put, List.setIfInBounds_toArray, List.set_cons_zero, List.set_cons_succ, i64_w, i32_w]
            rfl
          refine pure_ (i := 16) (N := some 49) (v := ?_) (a' := ?_) #[true, true, true, true, true, false, true, true, true, true, false, false, true, true, true, true, true, false, false, false, false, false, false, false, false, false, false, false, false, false, false, false, false, false, false, false, false, false, false, false, false, false, false, false, false, false, false] rfl rfl (by kernel_rfl) (fun _ _ _ h => h) (Or.inl ⟨by rfl, ?_⟩) ?_ ?_
          rotate_left
          · intro w'
            go_simp
            with_reducible rfl
          rotate_left
          · simp only [Act.put, List.setIfInBounds_toArray, List.set_cons_zero, List.set_cons_succ, i64_w, i32_w]
            rfl
          refine pure_ (i := 18) (N := some 51) (v := ?_) (a' := ?_) #[true, true, true, true, true, false, true, true, true, true, false, false, true, true, true, true, true, false, true, false, false, false, false, false, false, false, false, false, false, false, false, false, false, false, false, false, false, false, false, false, false, false, false, false, false, false, false] rfl rfl (by kernel_rfl) (fun _ _ _ h => h) (Or.inl ⟨by rfl, ?_⟩) ?_ ?_
          rotate_left
          · intro w'
            go_simp
            with_reducible rfl
          rotate_left
          · simp only [Act.put, List.setIfInBounds_toArray, List.set_cons_zero, List.set_cons_succ, i64_w, i32_w]
            rfl
          refine pure_ (i := 19) (N := some 52) (v := ?_) (a' := ?_) #[true, true, true, true, true, false, true, true, true, true, false, false, true, true, true, true, true, false, true, true, false, false, false, false, false, false, false, false, false, false, false, false, false, false, false, false, false, false, false, false, false, false, false, false, false, false, false] rfl rfl (by kernel_rfl) (fun _ _ _ h => h) (Or.inl ⟨by rfl, ?_⟩) ?_ ?_
          rotate_left
          · intro w'
            go_simp
            with_reducible rfl
          rotate_left
          · simp only [Act.put, List.setIfInBounds_toArray, List.set_cons_zero, List.set_cons_succ, i64_w, i32_w]
            rfl
          refine pure_ (i := 20) (N := some 53) (v := ?_) (a' := ?_) #[true, true, true, true, true, false, true, true, true, true, false, false, true, true, true, true, true, false, true, true, true, false, false, false, false, false, false, false, false, false, false, false, false, false, false, false, false, false, false, false, false, false, false, false, false, false, false] rfl rfl (by kernel_rfl) (fun _ _ _ h => h) (Or.inl ⟨by rfl, ?_⟩) ?_ ?_
          rotate_left
          · intro w'
            go_simp
            with_reducible rfl
          rotate_left
          · simp only [Act.put, List.setIfInBounds_toArray, List.set_cons_zero, List.set_cons_succ, i64_w, i32_w]
            rfl
          refine pure_ (i := 21) (N := some 54) (v := ?_) (a' := ?_) #[true, true, true, true, true, false, true, true, true, true, false, false, true, true, true, true, true, false, true, true, true, true, false, false, false, false, false, false, false, false, false, false, false, false, false, false, false, false, false, false, false, false, false, false, false, false, false] rfl rfl (by kernel_rfl) (fun _ _ _ h => h) (Or.inl ⟨by rfl, ?_⟩) ?_ ?_
          rotate_left
          · intro w'
            go_simp
            with_reducible rfl
          rotate_left
          · simp only [Act.put, List.setIfInBounds_toArray, List.set_cons_zero, List.set_cons_succ, i64_w, i32_w]
            rfl
          refine take_ (i := 5) (N := some 38) (v := ?_) (a' := ?_) #[true, true, true, true, true, true, true, true, true, true, false, false, true, true, true, true, true, false, true, true, true, true, false, false, false, false, false, false, false, false, false, false, false, false, false, false, false, false, false, false, false, false, false, false, false, false, false] rfl rfl (by kernel_rfl) (fun _ _ _ h => h) (Or.inl ⟨by rfl, ?_⟩) hHeld ?_ ?_
          rotate_left
          · rintro w' ⟨s0, s1⟩
            go_simp
            with_reducible rfl
          rotate_left
          · simp only [Act.put, List.setIfInBounds_toArray, List.set_cons_zero, List.set_cons_succ, i64_w, i32_w]
            rfl
          refine take_ (i := 10) (N := some 43) (v := ?_) (a' := ?_) #[true, true, true, true, true, true, true, true, true, true, true, false, true, true, true, true, true, false, true, true, true, true, false, false, false, false, false, false, false, false, false, false, false, false, false, false, false, false, false, false, false, false, false, false, false, false, false] rfl rfl (by kernel_rfl) (fun _ _ _ h => h) (Or.inl ⟨by rfl, ?_⟩) hHeld ?_ ?_
          rotate_left
          · rintro w' ⟨s0, s1⟩
            go_simp
            with_reducible rfl
          rotate_left
          · simp only [Act.put, List.setIfInBounds_toArray, List.set_cons_zero, List.set_cons_succ, i64_w, i32_w]
            rfl
          refine take_ (i := 17) (N := some 50) (v := ?_) (a' := ?_) #[true, true, true, true, true, true, true, true, true, true, true, false, true, true, true, true, true, true, true, true, true, true, false, false, false, false, false, false, false, false, false, false, false, false, false, false, false, false, false, false, false, false, false, false, false, false, false] rfl rfl (by kernel_rfl) (fun _ _ _ h => h) (Or.inl ⟨by rfl, ?_⟩) hHeld ?_ ?_
          rotate_left
          · rintro w' ⟨s0, s1⟩
            go_simp
            with_reducible rfl
          rotate_left
          · simp only [Act.put, List.setIfInBounds_toArray, List.set_cons_zero, List.set_cons_succ, i64_w, i32_w]
            rfl
          refine take_ (i := 22) (N := some 55) (v := ?_) (a' := ?_) #[true, true, true, true, true, true, true, true, true, true, true, false, true, true, true, true, true, true, true, true, true, true, true, false, false, false, false, false, false, false, false, false, false, false, false, false, false, false, false, false, false, false, false, false, false, false, false] rfl rfl (by kernel_rfl) (fun _ _ _ h => h) (Or.inl ⟨by rfl, ?_⟩) hHeld ?_ ?_
          rotate_left
          · rintro w' ⟨s0, s1⟩
            go_simp
            with_reducible rfl
          rotate_left
          · simp only [Act.put, List.setIfInBounds_toArray, List.set_cons_zero, List.set_cons_succ, i64_w, i32_w]
            rfl
          refine one_ (i := 11) (N := some 44) #[true, true, true, true, true, true, true, true, true, true, true, true, true, true, true, true, true, true, true, true, true, true, true, false, false, false, false, false, false, false, false, false, false, false, false, false, false, false, false, false, false, false, false, false, false, false, false] rfl rfl (by kernel_rfl) (by decide) (fun K hK => ?_)
          have hc_ := add_calls HVD.out.isV HA7.out HB7.out HL0.out x y HWX.out
          unfold AddPost at hc_
          rw [HOK.out] at hc_
          refine goes_ Try.func22 (by kernel_rfl) rfl #[.pointer (some ⟨gv, 0, none⟩), .int .i64 x, .bool y] (by rfl) rfl rfl (by simp only [List.map_toArray, List.map_cons, List.map_nil]; rfl) ?_
          with_reducible refine (hc_).mono ?_
          rintro e_ x11 ⟨rfl, hk_, hv_⟩
          refine ⟨_, rfl, ?_⟩
          have HV11 := Aside0.mk (HVD.out.add hk_ hv_)
          have HW11 := Aside0.mk (HWD.out.map hk_ HVD.out.map)
          have HC11 := Aside0.mk (HCD.out.map hk_ HVD.out.map)
          have HB11 := Aside0.mk (below_kept HBD.out HBD.out.size (fun k hk => by subst hk; exact HGE.out.1) hk_)
          clear hk_ hv_ hc_
          refine hK.out _ _ ⟨pw_cell_below HB11.out HP0.out, pw_cell_below HB11.out HP1.out⟩ (fun hHeld => ?_)
          clear hK K
          refine norm_ (a' := ?_) ?_ ?_
          rotate_left
          · show Act.put _ (some 44) _ = _
            simp only [Act.put, List.setIfInBounds_toArray, List.set_cons_zero, List.set_cons_succ, i64_w, i32_w]
            rfl
          refine one_ (i := 23) (N := some 56) #[true, true, true, true, true, true, true, true, true, true, true, true, true, true, true, true, true, true, true, true, true, true, true, true, false, false, false, false, false, false, false, false, false, false, false, false, false, false, false, false, false, false, false, false, false, false, false] rfl rfl (by kernel_rfl) (by decide) (fun K hK => ?_)
          have hc_ := radd_calls HW11.out HA7.out HB7.out HL1.out HL2.out x y
          unfold RAddPost at hc_
          rw [HRK.out] at hc_
          refine goes_ Try.func23 (by kernel_rfl) rfl #[.pointer (some ⟨gw, 0, none⟩), .int .i64 x, .bool y] (by rfl) rfl rfl (by simp only [List.map_toArray, List.map_cons, List.map_nil]; rfl) ?_
          with_reducible refine (hc_).mono ?_
          rintro e_ x23 ⟨rfl, hk_, hw_⟩
          refine ⟨_, rfl, ?_⟩
          have HV23 := Aside0.mk (HV11.out.far hk_ (far_of HW11.out))
          have HC23 := Aside0.mk (HC11.out.far hk_ (far_of HW11.out))
          have HW23 := Aside0.mk hw_
          have HB23 := Aside0.mk (below_kept HB11.out HB11.out.size (fun k hk => by rcases hk with hk | hk; (subst hk; exact HGE.out.2.1); exact Nat.le_trans HGE.out.2.2 hk) hk_)
          clear hk_ hw_ hc_
          refine hK.out _ _ ⟨pw_cell_below HB23.out HP0.out, pw_cell_below HB23.out HP1.out⟩ (fun hHeld => ?_)
          clear hK K
          refine norm_ (a' := ?_) ?_ ?_
          rotate_left
          · show Act.put _ (some 56) _ = _
            simp only [Act.put, List.setIfInBounds_toArray, List.set_cons_zero, List.set_cons_succ, i64_w, i32_w]
            rfl
          refine pure_ (i := 24) (N := some 57) (v := ?_) (a' := ?_) #[true, true, true, true, true, true, true, true, true, true, true, true, true, true, true, true, true, true, true, true, true, true, true, true, true, false, false, false, false, false, false, false, false, false, false, false, false, false, false, false, false, false, false, false, false, false, false] rfl rfl (by kernel_rfl) (fun _ _ _ h => h) (Or.inl ⟨by rfl, ?_⟩) ?_ ?_
          rotate_left
          · intro w'
            go_simp
            with_reducible rfl
          rotate_left
          · simp only [Act.put, List.setIfInBounds_toArray, List.set_cons_zero, List.set_cons_succ, i64_w, i32_w]
            rfl
          refine pure_ (i := 25) (N := some 58) (v := ?_) (a' := ?_) #[true, true, true, true, true, true, true, true, true, true, true, true, true, true, true, true, true, true, true, true, true, true, true, true, true, true, false, false, false, false, false, false, false, false, false, false, false, false, false, false, false, false, false, false, false, false, false] rfl rfl (by kernel_rfl) (fun _ _ _ h => h) (Or.inl ⟨by rfl, ?_⟩) ?_ ?_
          rotate_left
          · intro w'
            go_simp
            with_reducible rfl
          rotate_left
          · simp only [Act.put, List.setIfInBounds_toArray, List.set_cons_zero, List.set_cons_succ, i64_w, i32_w]
            rfl
          refine pure_ (i := 26) (N := some 59) (v := ?_) (a' := ?_) #[true, true, true, true, true, true, true, true, true, true, true, true, true, true, true, true, true, true, true, true, true, true, true, true, true, true, true, false, false, false, false, false, false, false, false, false, false, false, false, false, false, false, false, false, false, false, false] rfl rfl (by kernel_rfl) (fun _ _ _ h => h) (Or.inl ⟨by rfl, ?_⟩) ?_ ?_
          rotate_left
          · intro w'
            go_simp
            with_reducible rfl
          rotate_left
          · simp only [Act.put, List.setIfInBounds_toArray, List.set_cons_zero, List.set_cons_succ, i64_w, i32_w]
            rfl
          refine pure_ (i := 28) (N := some 61) (v := ?_) (a' := ?_) #[true, true, true, true, true, true, true, true, true, true, true, true, true, true, true, true, true, true, true, true, true, true, true, true, true, true, true, false, true, false, false, false, false, false, false, false, false, false, false, false, false, false, false, false, false, false, false] rfl rfl (by kernel_rfl) (fun _ _ _ h => h) (Or.inl ⟨by rfl, ?_⟩) ?_ ?_
          rotate_left
          · intro w'
            go_simp
            with_reducible rfl
          rotate_left
          · simp only [Act.put, List.setIfInBounds_toArray, List.set_cons_zero, List.set_cons_succ, i64_w, i32_w]
            rfl
          refine one_ (i := 27) (N := some 60) #[true, true, true, true, true, true, true, true, true, true, true, true, true, true, true, true, true, true, true, true, true, true, true, true, true, true, true, true, true, false, false, false, false, false, false, false, false, false, false, false, false, false, false, false, false, false, false] rfl rfl (by kernel_rfl) (by decide) (fun K hK => ?_)
          have hc_ := won_calls HV23.out.isV HA7.out HB7.out HLV.out
          rw [HQW.out] at hc_
          refine goes_ Try.func24 (by kernel_rfl) rfl #[.pointer (some ⟨gv, 0, none⟩)] (by rfl) rfl rfl (by simp only [List.map_toArray, List.map_cons, List.map_nil]; rfl) ?_
          with_reducible refine (hc_).mono ?_
          rintro e_ x27 ⟨rfl, hb_⟩
          refine ⟨_, rfl, ?_⟩
          have HV27 := Aside0.mk (HV23.out.below hb_)
          have HW27 := Aside0.mk (HW23.out.below hb_)
          have HC27 := Aside0.mk (HC23.out.below hb_)
          have HB27 := Aside0.mk (below_then HB23.out HB23.out.size hb_)
          clear hb_ hc_
          refine hK.out _ _ ⟨pw_cell_below HB27.out HP0.out, pw_cell_below HB27.out HP1.out⟩ (fun hHeld => ?_)
          clear hK K
          refine norm_ (a' := ?_) ?_ ?_
          rotate_left
          · show Act.put _ (some 60) _ = _
            simp only [Act.put, List.setIfInBounds_toArray, List.set_cons_zero, List.set_cons_succ, i64_w, i32_w]
            rfl
          refine one_ (i := 29) (N := some 62) #[true, true, true, true, true, true, true, true, true, true, true, true, true, true, true, true, true, true, true, true, true, true, true, true, true, true, true, true, true, true, false, false, false, false, false, false, false, false, false, false, false, false, false, false, false, false, false] rfl rfl (by kernel_rfl) (by decide) (fun K hK => ?_)
          have hc_ := rwon_calls HW27.out HA7.out HB7.out HLY.out
          rw [HQR.out] at hc_
          refine goes_ Try.func25 (by kernel_rfl) rfl #[.pointer (some ⟨gw, 0, none⟩)] (by rfl) rfl rfl (by simp only [List.map_toArray, List.map_cons, List.map_nil]; rfl) ?_
          with_reducible refine (hc_).mono ?_
          rintro e_ x29 ⟨rfl, hb_⟩
          refine ⟨_, rfl, ?_⟩
          have HV29 := Aside0.mk (HV27.out.below hb_)
          have HW29 := Aside0.mk (HW27.out.below hb_)
          have HC29 := Aside0.mk (HC27.out.below hb_)
          have HB29 := Aside0.mk (below_then HB27.out HB27.out.size hb_)
          clear hb_ hc_
          refine hK.out _ _ ⟨pw_cell_below HB29.out HP0.out, pw_cell_below HB29.out HP1.out⟩ (fun hHeld => ?_)
          clear hK K
          refine norm_ (a' := ?_) ?_ ?_
          rotate_left
          · show Act.put _ (some 62) _ = _
            simp only [Act.put, List.setIfInBounds_toArray, List.set_cons_zero, List.set_cons_succ, i64_w, i32_w]
            rfl
          refine pure_ (i := 30) (N := some 63) (v := ?_) (a' := ?_) #[true, true, true, true, true, true, true, true, true, true, true, true, true, true, true, true, true, true, true, true, true, true, true, true, true, true, true, true, true, true, true, false, false, false, false, false, false, false, false, false, false, false, false, false, false, false, false] rfl rfl (by kernel_rfl) (fun _ _ _ h => h) (Or.inl ⟨by rfl, ?_⟩) ?_ ?_
          rotate_left
          · intro w'
            go_simp
            with_reducible rfl
          rotate_left
          · simp only [Act.put, List.setIfInBounds_toArray, List.set_cons_zero, List.set_cons_succ, i64_w, i32_w]
            rfl
          refine pure_ (i := 31) (N := some 64) (v := ?_) (a' := ?_) #[true, true, true, true, true, true, true, true, true, true, true, true, true, true, true, true, true, true, true, true, true, true, true, true, true, true, true, true, true, true, true, true, false, false, false, false, false, false, false, false, false, false, false, false, false, false, false] rfl rfl (by kernel_rfl) (fun _ _ _ h => h) (Or.inl ⟨by rfl, ?_⟩) ?_ ?_
          rotate_left
          · intro w'
            go_simp
            with_reducible rfl
          rotate_left
          · simp only [Act.put, List.setIfInBounds_toArray, List.set_cons_zero, List.set_cons_succ, i64_w, i32_w]
            rfl
          refine pure_ (i := 32) (N := some 65) (v := ?_) (a' := ?_) #[true, true, true, true, true, true, true, true, true, true, true, true, true, true, true, true, true, true, true, true, true, true, true, true, true, true, true, true, true, true, true, true, true, false, false, false, false, false, false, false, false, false, false, false, false, false, false] rfl rfl (by kernel_rfl) (fun _ _ _ h => h) (Or.inl ⟨by rfl, ?_⟩) ?_ ?_
          rotate_left
          · intro w'
            go_simp
            with_reducible rfl
          rotate_left
          · simp only [Act.put, List.setIfInBounds_toArray, List.set_cons_zero, List.set_cons_succ, i64_w, i32_w]
            rfl
          refine pure_ (i := 33) (N := some 66) (v := ?_) (a' := ?_) #[true, true, true, true, true, true, true, true, true, true, true, true, true, true, true, true, true, true, true, true, true, true, true, true, true, true, true, true, true, true, true, true, true, true, false, false, false, false, false, false, false, false, false, false, false, false, false] rfl rfl (by kernel_rfl) (fun _ _ _ h => h) (Or.inl ⟨by rfl, ?_⟩) ?_ ?_
          rotate_left
          · intro w'
            go_simp
            with_reducible rfl
          rotate_left
          · simp only [Act.put, List.setIfInBounds_toArray, List.set_cons_zero, List.set_cons_succ, i64_w, i32_w]
            rfl
          refine pure_ (i := 35) (N := some 68) (v := ?_) (a' := ?_) #[true, true, true, true, true, true, true, true, true, true, true, true, true, true, true, true, true, true, true, true, true, true, true, true, true, true, true, true, true, true, true, true, true, true, false, true, false, false, false, false, false, false, false, false, false, false, false] rfl rfl (by kernel_rfl) (fun _ _ _ h => h) (Or.inl ⟨by rfl, ?_⟩) ?_ ?_
          rotate_left
          · intro w'
            go_simp
            with_reducible rfl
          rotate_left
          · simp only [Act.put, List.setIfInBounds_toArray, List.set_cons_zero, List.set_cons_succ, i64_w, i32_w]
            rfl
          refine one_ (i := 34) (N := some 67) #[true, true, true, true, true, true, true, true, true, true, true, true, true, true, true, true, true, true, true, true, true, true, true, true, true, true, true, true, true, true, true, true, true, true, true, true, false, false, false, false, false, false, false, false, false, false, false] rfl rfl (by kernel_rfl) (by decide) (fun K hK => ?_)
          have hc_ := lost_calls HV29.out.isV HA7.out HB7.out HB1.out HMW.out
          rw [HQL.out] at hc_
          refine goes_ Try.func26 (by kernel_rfl) rfl #[.pointer (some ⟨gv, 0, none⟩)] (by rfl) rfl rfl (by simp only [List.map_toArray, List.map_cons, List.map_nil]; rfl) ?_
          with_reducible refine (hc_).mono ?_
          rintro e_ x34 ⟨rfl, hb_⟩
          refine ⟨_, rfl, ?_⟩
          have HV34 := Aside0.mk (HV29.out.below hb_)
          have HW34 := Aside0.mk (HW29.out.below hb_)
          have HC34 := Aside0.mk (HC29.out.below hb_)
          have HB34 := Aside0.mk (below_then HB29.out HB29.out.size hb_)
          clear hb_ hc_
          refine hK.out _ _ ⟨pw_cell_below HB34.out HP0.out, pw_cell_below HB34.out HP1.out⟩ (fun hHeld => ?_)
          clear hK K
          refine norm_ (a' := ?_) ?_ ?_
          rotate_left
          · show Act.put _ (some 67) _ = _
            simp only [Act.put, List.setIfInBounds_toArray, List.set_cons_zero, List.set_cons_succ, i64_w, i32_w]
            rfl
          refine one_ (i := 36) (N := some 69) #[true, true, true, true, true, true, true, true, true, true, true, true, true, true, true, true, true, true, true, true, true, true, true, true, true, true, true, true, true, true, true, true, true, true, true, true, true, false, false, false, false, false, false, false, false, false, false] rfl rfl (by kernel_rfl) (by decide) (fun K hK => ?_)
          have hc_ := rlost_calls HW34.out HA7.out HB7.out HLN.out
          rw [HQS.out] at hc_
          refine goes_ Try.func27 (by kernel_rfl) rfl #[.pointer (some ⟨gw, 0, none⟩)] (by rfl) rfl rfl (by simp only [List.map_toArray, List.map_cons, List.map_nil]; rfl) ?_
          with_reducible refine (hc_).mono ?_
          rintro e_ x36 ⟨rfl, hb_⟩
          refine ⟨_, rfl, ?_⟩
          have HV36 := Aside0.mk (HV34.out.below hb_)
          have HW36 := Aside0.mk (HW34.out.below hb_)
          have HC36 := Aside0.mk (HC34.out.below hb_)
          have HB36 := Aside0.mk (below_then HB34.out HB34.out.size hb_)
          clear hb_ hc_
          refine hK.out _ _ ⟨pw_cell_below HB36.out HP0.out, pw_cell_below HB36.out HP1.out⟩ (fun hHeld => ?_)
          clear hK K
          refine norm_ (a' := ?_) ?_ ?_
          rotate_left
          · show Act.put _ (some 69) _ = _
            simp only [Act.put, List.setIfInBounds_toArray, List.set_cons_zero, List.set_cons_succ, i64_w, i32_w]
            rfl
          refine pure_ (i := 37) (N := some 70) (v := ?_) (a' := ?_) #[true, true, true, true, true, true, true, true, true, true, true, true, true, true, true, true, true, true, true, true, true, true, true, true, true, true, true, true, true, true, true, true, true, true, true, true, true, true, false, false, false, false, false, false, false, false, false] rfl rfl (by kernel_rfl) (fun _ _ _ h => h) (Or.inl ⟨by rfl, ?_⟩) ?_ ?_
          rotate_left
          · intro w'
            go_simp
            with_reducible rfl
          rotate_left
          · simp only [Act.put, List.setIfInBounds_toArray, List.set_cons_zero, List.set_cons_succ, i64_w, i32_w]
            rfl
          refine pure_ (i := 38) (N := some 71) (v := ?_) (a' := ?_) #[true, true, true, true, true, true, true, true, true, true, true, true, true, true, true, true, true, true, true, true, true, true, true, true, true, true, true, true, true, true, true, true, true, true, true, true, true, true, true, false, false, false, false, false, false, false, false] rfl rfl (by kernel_rfl) (fun _ _ _ h => h) (Or.inl ⟨by rfl, ?_⟩) ?_ ?_
          rotate_left
          · intro w'
            go_simp
            with_reducible rfl
          rotate_left
          · simp only [Act.put, List.setIfInBounds_toArray, List.set_cons_zero, List.set_cons_succ, i64_w, i32_w]
            rfl
          refine pure_ (i := 39) (N := some 72) (v := ?_) (a' := ?_) #[true, true, true, true, true, true, true, true, true, true, true, true, true, true, true, true, true, true, true, true, true, true, true, true, true, true, true, true, true, true, true, true, true, true, true, true, true, true, true, true, false, false, false, false, false, false, false] rfl rfl (by kernel_rfl) (fun _ _ _ h => h) (Or.inl ⟨by rfl, ?_⟩) ?_ ?_
          rotate_left
          · intro w'
            go_simp
            with_reducible rfl
          rotate_left
          · simp only [Act.put, List.setIfInBounds_toArray, List.set_cons_zero, List.set_cons_succ, i64_w, i32_w]
            rfl
          refine pure_ (i := 40) (N := some 73) (v := ?_) (a' := ?_) #[true, true, true, true, true, true, true, true, true, true, true, true, true, true, true, true, true, true, true, true, true, true, true, true, true, true, true, true, true, true, true, true, true, true, true, true, true, true, true, true, true, false, false, false, false, false, false] rfl rfl (by kernel_rfl) (fun _ _ _ h => h) (Or.inl ⟨by rfl, ?_⟩) ?_ ?_
          rotate_left
          · intro w'
            go_simp
            with_reducible rfl
          rotate_left
          · simp only [Act.put, List.setIfInBounds_toArray, List.set_cons_zero, List.set_cons_succ, i64_w, i32_w]
            rfl
          refine one_ (i := 41) (N := some 74) #[true, true, true, true, true, true, true, true, true, true, true, true, true, true, true, true, true, true, true, true, true, true, true, true, true, true, true, true, true, true, true, true, true, true, true, true, true, true, true, true, true, true, false, false, false, false, false] rfl rfl (by kernel_rfl) (by decide) (fun K hK => ?_)
          have hc_ := won_calls HV36.out.isV HA7.out HB7.out HLV.out
          rw [HQW.out] at hc_
          refine goes_ Try.func24 (by kernel_rfl) rfl #[.pointer (some ⟨gv, 0, none⟩)] (by rfl) rfl rfl (by simp only [List.map_toArray, List.map_cons, List.map_nil]; rfl) ?_
          with_reducible refine (hc_).mono ?_
          rintro e_ x41 ⟨rfl, hb_⟩
          refine ⟨_, rfl, ?_⟩
          have HV41 := Aside0.mk (HV36.out.below hb_)
          have HW41 := Aside0.mk (HW36.out.below hb_)
          have HC41 := Aside0.mk (HC36.out.below hb_)
          have HB41 := Aside0.mk (below_then HB36.out HB36.out.size hb_)
          clear hb_ hc_
          refine hK.out _ _ ⟨pw_cell_below HB41.out HP0.out, pw_cell_below HB41.out HP1.out⟩ (fun hHeld => ?_)
          clear hK K
          refine norm_ (a' := ?_) ?_ ?_
          rotate_left
          · show Act.put _ (some 74) _ = _
            simp only [Act.put, List.setIfInBounds_toArray, List.set_cons_zero, List.set_cons_succ, i64_w, i32_w]
            rfl
          refine pure_ (i := 42) (N := some 75) (v := ?_) (a' := ?_) #[true, true, true, true, true, true, true, true, true, true, true, true, true, true, true, true, true, true, true, true, true, true, true, true, true, true, true, true, true, true, true, true, true, true, true, true, true, true, true, true, true, true, true, false, false, false, false] rfl rfl (by kernel_rfl) (fun _ _ _ h => h) (Or.inl ⟨by rfl, ?_⟩) ?_ ?_
          rotate_left
          · intro w'
            go_simp
            with_reducible rfl
          rotate_left
          · simp only [Act.put, List.setIfInBounds_toArray, List.set_cons_zero, List.set_cons_succ, i64_w, i32_w]
            rfl
          refine pure_ (i := 43) (N := some 76) (v := ?_) (a' := ?_) #[true, true, true, true, true, true, true, true, true, true, true, true, true, true, true, true, true, true, true, true, true, true, true, true, true, true, true, true, true, true, true, true, true, true, true, true, true, true, true, true, true, true, true, true, false, false, false] rfl rfl (by kernel_rfl) (fun _ _ _ h => h) (Or.inl ⟨by rfl, ?_⟩) ?_ ?_
          rotate_left
          · intro w'
            go_simp
            with_reducible rfl
          rotate_left
          · simp only [Act.put, List.setIfInBounds_toArray, List.set_cons_zero, List.set_cons_succ, i64_w, i32_w]
            rfl
          refine one_ (i := 44) (N := some 77) #[true, true, true, true, true, true, true, true, true, true, true, true, true, true, true, true, true, true, true, true, true, true, true, true, true, true, true, true, true, true, true, true, true, true, true, true, true, true, true, true, true, true, true, true, true, false, false] rfl rfl (by kernel_rfl) (by decide) (fun K hK => ?_)
          have hc_ := lost_calls HV41.out.isV HA7.out HB7.out HB1.out HMW.out
          rw [HQL.out] at hc_
          refine goes_ Try.func26 (by kernel_rfl) rfl #[.pointer (some ⟨gv, 0, none⟩)] (by rfl) rfl rfl (by simp only [List.map_toArray, List.map_cons, List.map_nil]; rfl) ?_
          with_reducible refine (hc_).mono ?_
          rintro e_ x44 ⟨rfl, hb_⟩
          refine ⟨_, rfl, ?_⟩
          have HV44 := Aside0.mk (HV41.out.below hb_)
          have HW44 := Aside0.mk (HW41.out.below hb_)
          have HC44 := Aside0.mk (HC41.out.below hb_)
          have HB44 := Aside0.mk (below_then HB41.out HB41.out.size hb_)
          clear hb_ hc_
          refine hK.out _ _ ⟨pw_cell_below HB44.out HP0.out, pw_cell_below HB44.out HP1.out⟩ (fun hHeld => ?_)
          clear hK K
          refine norm_ (a' := ?_) ?_ ?_
          rotate_left
          · show Act.put _ (some 77) _ = _
            simp only [Act.put, List.setIfInBounds_toArray, List.set_cons_zero, List.set_cons_succ, i64_w, i32_w]
            rfl
          refine pure_ (i := 45) (N := some 78) (v := ?_) (a' := ?_) #[true, true, true, true, true, true, true, true, true, true, true, true, true, true, true, true, true, true, true, true, true, true, true, true, true, true, true, true, true, true, true, true, true, true, true, true, true, true, true, true, true, true, true, true, true, true, false] rfl rfl (by kernel_rfl) (fun _ _ _ h => h) (Or.inl ⟨by rfl, ?_⟩) ?_ ?_
          rotate_left
          · intro w'
            go_simp
            with_reducible rfl
          rotate_left
          · simp only [Act.put, List.setIfInBounds_toArray, List.set_cons_zero, List.set_cons_succ, i64_w, i32_w]
            rfl
          refine pure_ (i := 46) (N := some 79) (v := ?_) (a' := ?_) #[true, true, true, true, true, true, true, true, true, true, true, true, true, true, true, true, true, true, true, true, true, true, true, true, true, true, true, true, true, true, true, true, true, true, true, true, true, true, true, true, true, true, true, true, true, true, true] rfl rfl (by kernel_rfl) (fun _ _ _ h => h) (Or.inl ⟨by rfl, ?_⟩) ?_ ?_
          rotate_left
          · intro w'
            go_simp
            with_reducible rfl
          rotate_left
          · simp only [Act.put, List.setIfInBounds_toArray, List.set_cons_zero, List.set_cons_succ, i64_w, i32_w]
            rfl
          refine done_ (by kernel_rfl) ?_
          go_wp2
          go_roundw
          case rel => exact ⟨i + 1, _, _, _, by first | rfl | (rw [hwi]; rfl), by omega, by omega, HI1, HLT, HV44, HW44, HC44, HB44⟩
          case measure => exact meas_step_ (by omega : i < 40) (by first | rfl | exact hwi)
        case false =>
          have HQW := Aside0.mk (show CP.quorum a b (yesV (addTo a b vs x y)) = false from hqw)
          have HQR := Aside0.mk (show CP.quorum a b (rYes a b yes no x y) = false by rw [HI1.out.won]; exact hqw)
          obtain ⟨bl, hql⟩ : ∃ bl, (!CP.quorum a b (lostL (addTo a b vs x y) (Mem.members a b))) = bl := ⟨_, rfl⟩
          have HQL := Aside0.mk hql
          have HQS := Aside0.mk (show (!CP.quorum a b (leftR (rNo a b yes no x y) (mem8 a b 9))) = bl by rw [HI1.out.lost HBX.out]; exact hql)
          have hnl : (bl != bl) = false := by cases bl <;> rfl
          clear hql hqw
          refine start_ (n := 47) (S := fun w' => w'.cell? (ad.add (i * 2)) = some (Value.int .i64 x) ∧ w'.cell? ⟨(ad.add (i * 2)).block, (ad.add (i * 2)).off + 1, none⟩ = some (Value.bool y)) (ds := []) #[false, false, false, false, false, false, false, false, false, false, false, false, false, false, false, false, false, false, false, false, false, false, false, false, false, false, false, false, false, false, false, false, false, false, false, false, false, false, false, false, false, false, false, false, false, false, false] (by kernel_rfl) rfl rfl ⟨HX0.out, HX1.out⟩ (fun hHeld => ?_)
          have hHX := hHeld
          generalize wr.drew = wd at HVD HWD HCD HBD HX0 HX1 hHeld hHX ⊢
          refine pure_ (i := 0) (N := some 33) (v := ?_) (a' := ?_) #[true, false, false, false, false, false, false, false, false, false, false, false, false, false, false, false, false, false, false, false, false, false, false, false, false, false, false, false, false, false, false, false, false, false, false, false, false, false, false, false, false, false, false, false, false, false, false] rfl rfl (by kernel_rfl) (fun _ _ _ h => h) (Or.inl ⟨by rfl, ?_⟩) ?_ ?_
          rotate_left
          · intro w'
            go_simp
            with_reducible rfl
          rotate_left
          · simp only [Act.put, List.setIfInBounds_toArray, List.set_cons_zero, List.set_cons_succ, i64_w, i32_w]
            rfl
          refine pure_ (i := 1) (N := some 34) (v := ?_) (a' := ?_) #[true, true, false, false, false, false, false, false, false, false, false, false, false, false, false, false, false, false, false, false, false, false, false, false, false, false, false, false, false, false, false, false, false, false, false, false, false, false, false, false, false, false, false, false, false, false, false] rfl rfl (by kernel_rfl) (fun _ _ _ h => h) (Or.inl ⟨by rfl, ?_⟩) ?_ ?_
          rotate_left
          · intro w'
            go_simp
            with_reducible rfl
          rotate_left
          · simp only [Act.put, List.setIfInBounds_toArray, List.set_cons_zero, List.set_cons_succ, i64_w, i32_w]
            rfl
          refine pure_ (i := 2) (N := some 35) (v := ?_) (a' := ?_) #[true, true, true, false, false, false, false, false, false, false, false, false, false, false, false, false, false, false, false, false, false, false, false, false, false, false, false, false, false, false, false, false, false, false, false, false, false, false, false, false, false, false, false, false, false, false, false] rfl rfl (by kernel_rfl) (fun _ _ _ h => h) (Or.inl ⟨by rfl, ?_⟩) ?_ ?_
          rotate_left
          · intro w'
            go_simp
            with_reducible rfl
          rotate_left
          · simp only [Act.put, List.setIfInBounds_toArray, List.set_cons_zero, List.set_cons_succ, i64_w, i32_w]
            rfl
          refine pure_ (i := 3) (N := some 36) (v := ?_) (a' := ?_) #[true, true, true, true, false, false, false, false, false, false, false, false, false, false, false, false, false, false, false, false, false, false, false, false, false, false, false, false, false, false, false, false, false, false, false, false, false, false, false, false, false, false, false, false, false, false, false] rfl rfl (by kernel_rfl) (fun _ _ _ h => h) (Or.inl ⟨by rfl, ?_⟩) ?_ ?_
          rotate_left
          · intro w'
            go_simp
            with_reducible rfl
          rotate_left
          · simp only [Act.put, List.setIfInBounds_toArray, List.set_cons_zero, List.set_cons_succ, i64_w, i32_w]
            rfl
          refine pure_ (i := 4) (N := some 37) (v := ?_) (a' := ?_) #[true, true, true, true, true, false, false, false, false, false, false, false, false, false, false, false, false, false, false, false, false, false, false, false, false, false, false, false, false, false, false, false, false, false, false, false, false, false, false, false, false, false, false, false, false, false, false] rfl rfl (by kernel_rfl) (fun _ _ _ h => h) (Or.inl ⟨by rfl, ?_⟩) ?_ ?_
          rotate_left
          · intro w'
            go_simp
            with_reducible rfl
          rotate_left
          · simp only [Act.put, List.setIfInBounds_toArray, List.set_cons_zero, List.set_cons_succ, i64_w, i32_w]
            rfl
          refine pure_ (i := 6) (N := some 39) (v := ?_) (a' := ?_) #[true, true, true, true, true, false, true, false, false, false, false, false, false, false, false, false, false, false, false, false, false, false, false, false, false, false, false, false, false, false, false, false, false, false, false, false, false, false, false, false, false, false, false, false, false, false, false] rfl rfl (by kernel_rfl) (fun _ _ _ h => h) (Or.inl ⟨by rfl, ?_⟩) ?_ ?_
          rotate_left
          · intro w'
            go_simp
            with_reducible rfl
          rotate_left
          · simp only [Act.put, List.setIfInBounds_toArray, List.set_cons_zero, List.set_cons_succ, i64_w, i32_w]
            rfl
          refine pure_ (i := 7) (N := some 40) (v := ?_) (a' := ?_) #[true, true, true, true, true, false, true, true, false, false, false, false, false, false, false, false, false, false, false, false, false, false, false, false, false, false, false, false, false, false, false, false, false, false, false, false, false, false, false, false, false, false, false, false, false, false, false] rfl rfl (by kernel_rfl) (fun _ _ _ h => h) (Or.inl ⟨by rfl, ?_⟩) ?_ ?_
          rotate_left
          · intro w'
            go_simp
            with_reducible rfl
          rotate_left
          · simp only [Act.put, List.setIfInBounds_toArray, List.set_cons_zero, List.set_cons_succ, i64_w, i32_w]
            rfl
          refine pure_ (i := 8) (N := some 41) (v := ?_) (a' := ?_) #[true, true, true, true, true, false, true, true, true, false, false, false, false, false, false, false, false, false, false, false, false, false, false, false, false, false, false, false, false, false, false, false, false, false, false, false, false, false, false, false, false, false, false, false, false, false, false] rfl rfl (by kernel_rfl) (fun _ _ _ h => h) (Or.inl ⟨by rfl, ?_⟩) ?_ ?_
          rotate_left
          · intro w'
            go_simp
            with_reducible rfl
          rotate_left
          · simp only [Act.put, List.setIfInBounds_toArray, List.set_cons_zero, List.set_cons_succ, i64_w, i32_w]
            rfl
          refine pure_ (i := 9) (N := some 42) (v := ?_) (a' := ?_) #[true, true, true, true, true, false, true, true, true, true, false, false, false, false, false, false, false, false, false, false, false, false, false, false, false, false, false, false, false, false, false, false, false, false, false, false, false, false, false, false, false, false, false, false, false, false, false] rfl rfl (by kernel_rfl) (fun _ _ _ h => h) (Or.inl ⟨by rfl, ?_⟩) ?_ ?_
          rotate_left
          · intro w'
            go_simp
            with_reducible rfl
          rotate_left
          · simp only [Act.put, List.setIfInBounds_toArray, List.set_cons_zero, List.set_cons_succ, i64_w, i32_w]
            rfl
          refine pure_ (i := 12) (N := some 45) (v := ?_) (a' := ?_) #[true, true, true, true, true, false, true, true, true, true, false, false, true, false, false, false, false, false, false, false, false, false, false, false, false, false, false, false, false, false, false, false, false, false, false, false, false, false, false, false, false, false, false, false, false, false, false] rfl rfl (by kernel_rfl) (fun _ _ _ h => h) (Or.inl ⟨by rfl, ?_⟩) ?_ ?_
          rotate_left
          · intro w'
            go_simp
            with_reducible rfl
          rotate_left
          · simp only [Act.put, List.setIfInBounds_toArray, List.set_cons_zero, List.set_cons_succ, i64_w, i32_w]
            rfl
          refine pure_ (i := 13) (N := some 46) (v := ?_) (a' := ?_) #[true, true, true, true, true, false, true, true, true, true, false, false, true, true, false, false, false, false, false, false, false, false, false, false, false, false, false, false, false, false, false, false, false, false, false, false, false, false, false, false, false, false, false, false, false, false, false] rfl rfl (by kernel_rfl) (fun _ _ _ h => h) (Or.inl ⟨by rfl, ?_⟩) ?_ ?_
          rotate_left
          · intro w'
            go_simp
            with_reducible rfl
          rotate_left
          · simp only [Act.put, List.setIfInBounds_toArray, List.set_cons_zero, List.set_cons_succ, i64_w, i32_w]
            rfl
          refine pure_ (i := 14) (N := some 47) (v := ?_) (a' := ?_) #[true, true, true, true, true, false, true, true, true, true, false, false, true, true, true, false, false, false, false, false, false, false, false, false, false, false, false, false, false, false, false, false, false, false, false, false, false, false, false, false, false, false, false, false, false, false, false] rfl rfl (by kernel_rfl) (fun _ _ _ h => h) (Or.inl ⟨by rfl, ?_⟩) ?_ ?_
          rotate_left
          · intro w'
            go_simp
            with_reducible rfl
          rotate_left
          · simp only [Act.put, List.setIfInBounds_toArray, List.set_cons_zero, List.set_cons_succ, i64_w, i32_w]
            rfl
          refine pure_ (i := 15) (N := some 48) (v := ?_) (a' := ?_) #[true, true, true, true, true, false, true, true, true, true, false, false, true, true, true, true, false, false, false, false, false, false, false, false, false, false, false, false, false, false, false, false, false, false, false, false, false, false, false, false, false, false, false, false, false, false, false] rfl rfl (by kernel_rfl) (fun _ _ _ h => h) (Or.inl ⟨by rfl, ?_⟩) ?_ ?_
          rotate_left
          · intro w'
            go_simp
            with_reducible rfl
          rotate_left
          · simp only [Act.put, List.setIfInBounds_toArray, List.set_cons_zero, List.set_cons_succ, i64_w, i32_w]
            rfl
          refine pure_ (i := 16) (N := some 49) (v := ?_) (a' := ?_) #[true, true, true, true, true, false, true, true, true, true, false, false, true, true, true, true, true, false, false, false, false, false, false, false, false, false, false, false, false, false, false, false, false, false, false, false, false, false, false, false, false, false, false, false, false, false, false] rfl rfl (by kernel_rfl) (fun _ _ _ h => h) (Or.inl ⟨by rfl, ?_⟩) ?_ ?_
          rotate_left
          · intro w'
            go_simp
            with_reducible rfl
          rotate_left
          · simp only [Act.put, List.setIfInBounds_toArray, List.set_cons_zero, List.set_cons_succ, i64_w, i32_w]
            rfl
          refine pure_ (i := 18) (N := some 51) (v := ?_) (a' := ?_) #[true, true, true, true, true, false, true, true, true, true, false, false, true, true, true, true, true, false, true, false, false, false, false, false, false, false, false, false, false, false, false, false, false, false, false, false, false, false, false, false, false, false, false, false, false, false, false] rfl rfl (by kernel_rfl) (fun _ _ _ h => h) (Or.inl ⟨by rfl, ?_⟩) ?_ ?_
          rotate_left
          · intro w'
            go_simp
            with_reducible rfl
          rotate_left
          · simp only [Act.put, List.setIfInBounds_toArray, List.set_cons_zero, List.set_cons_succ, i64_w, i32_w]
            rfl
          refine pure_ (i := 19) (N := some 52) (v := ?_) (a' := ?_) #[true, true, true, true, true, false, true, true, true, true, false, false, true, true, true, true, true, false, true, true, false, false, false, false, false, false, false, false, false, false, false, false, false, false, false, false, false, false, false, false, false, false, false, false, false, false, false] rfl rfl (by kernel_rfl) (fun _ _ _ h => h) (Or.inl ⟨by rfl, ?_⟩) ?_ ?_
          rotate_left
          · intro w'
            go_simp
            with_reducible rfl
          rotate_left
          · simp only [Act.put, List.setIfInBounds_toArray, List.set_cons_zero, List.set_cons_succ, i64_w, i32_w]
            rfl
          refine pure_ (i := 20) (N := some 53) (v := ?_) (a' := ?_) #[true, true, true, true, true, false, true, true, true, true, false, false, true, true, true, true, true, false, true, true, true, false, false, false, false, false, false, false, false, false, false, false, false, false, false, false, false, false, false, false, false, false, false, false, false, false, false] rfl rfl (by kernel_rfl) (fun _ _ _ h => h) (Or.inl ⟨by rfl, ?_⟩) ?_ ?_
          rotate_left
          · intro w'
            go_simp
            with_reducible rfl
          rotate_left
          · simp only [Act.put, List.setIfInBounds_toArray, List.set_cons_zero, List.set_cons_succ, i64_w, i32_w]
            rfl
          refine pure_ (i := 21) (N := some 54) (v := ?_) (a' := ?_) #[true, true, true, true, true, false, true, true, true, true, false, false, true, true, true, true, true, false, true, true, true, true, false, false, false, false, false, false, false, false, false, false, false, false, false, false, false, false, false, false, false, false, false, false, false, false, false] rfl rfl (by kernel_rfl) (fun _ _ _ h => h) (Or.inl ⟨by rfl, ?_⟩) ?_ ?_
          rotate_left
          · intro w'
            go_simp
            with_reducible rfl
          rotate_left
          · simp only [Act.put, List.setIfInBounds_toArray, List.set_cons_zero, List.set_cons_succ, i64_w, i32_w]
            rfl
          refine take_ (i := 5) (N := some 38) (v := ?_) (a' := ?_) #[true, true, true, true, true, true, true, true, true, true, false, false, true, true, true, true, true, false, true, true, true, true, false, false, false, false, false, false, false, false, false, false, false, false, false, false, false, false, false, false, false, false, false, false, false, false, false] rfl rfl (by kernel_rfl) (fun _ _ _ h => h) (Or.inl ⟨by rfl, ?_⟩) hHeld ?_ ?_
          rotate_left
          · rintro w' ⟨s0, s1⟩
            go_simp
            with_reducible rfl
          rotate_left
          · simp only [Act.put, List.setIfInBounds_toArray, List.set_cons_zero, List.set_cons_succ, i64_w, i32_w]
            rfl
          refine take_ (i := 10) (N := some 43) (v := ?_) (a' := ?_) #[true, true, true, true, true, true, true, true, true, true, true, false, true, true, true, true, true, false, true, true, true, true, false, false, false, false, false, false, false, false, false, false, false, false, false, false, false, false, false, false, false, false, false, false, false, false, false] rfl rfl (by kernel_rfl) (fun _ _ _ h => h) (Or.inl ⟨by rfl, ?_⟩) hHeld ?_ ?_
          rotate_left
          · rintro w' ⟨s0, s1⟩
            go_simp
            with_reducible rfl
          rotate_left
          · simp only [Act.put, List.setIfInBounds_toArray, List.set_cons_zero, List.set_cons_succ, i64_w, i32_w]
            rfl
          refine take_ (i := 17) (N := some 50) (v := ?_) (a' := ?_) #[true, true, true, true, true, true, true, true, true, true, true, false, true, true, true, true, true, true, true, true, true, true, false, false, false, false, false, false, false, false, false, false, false, false, false, false, false, false, false, false, false, false, false, false, false, false, false] rfl rfl (by kernel_rfl) (fun _ _ _ h => h) (Or.inl ⟨by rfl, ?_⟩) hHeld ?_ ?_
          rotate_left
          · rintro w' ⟨s0, s1⟩
            go_simp
            with_reducible rfl
          rotate_left
          · simp only [Act.put, List.setIfInBounds_toArray, List.set_cons_zero, List.set_cons_succ, i64_w, i32_w]
            rfl
          refine take_ (i := 22) (N := some 55) (v := ?_) (a' := ?_) #[true, true, true, true, true, true, true, true, true, true, true, false, true, true, true, true, true, true, true, true, true, true, true, false, false, false, false, false, false, false, false, false, false, false, false, false, false, false, false, false, false, false, false, false, false, false, false] rfl rfl (by kernel_rfl) (fun _ _ _ h => h) (Or.inl ⟨by rfl, ?_⟩) hHeld ?_ ?_
          rotate_left
          · rintro w' ⟨s0, s1⟩
            go_simp
            with_reducible rfl
          rotate_left
          · simp only [Act.put, List.setIfInBounds_toArray, List.set_cons_zero, List.set_cons_succ, i64_w, i32_w]
            rfl
          refine one_ (i := 11) (N := some 44) #[true, true, true, true, true, true, true, true, true, true, true, true, true, true, true, true, true, true, true, true, true, true, true, false, false, false, false, false, false, false, false, false, false, false, false, false, false, false, false, false, false, false, false, false, false, false, false] rfl rfl (by kernel_rfl) (by decide) (fun K hK => ?_)
          have hc_ := add_calls HVD.out.isV HA7.out HB7.out HL0.out x y HWX.out
          unfold AddPost at hc_
          rw [HOK.out] at hc_
          refine goes_ Try.func22 (by kernel_rfl) rfl #[.pointer (some ⟨gv, 0, none⟩), .int .i64 x, .bool y] (by rfl) rfl rfl (by simp only [List.map_toArray, List.map_cons, List.map_nil]; rfl) ?_
          with_reducible refine (hc_).mono ?_
          rintro e_ x11 ⟨rfl, hk_, hv_⟩
          refine ⟨_, rfl, ?_⟩
          have HV11 := Aside0.mk (HVD.out.add hk_ hv_)
          have HW11 := Aside0.mk (HWD.out.map hk_ HVD.out.map)
          have HC11 := Aside0.mk (HCD.out.map hk_ HVD.out.map)
          have HB11 := Aside0.mk (below_kept HBD.out HBD.out.size (fun k hk => by subst hk; exact HGE.out.1) hk_)
          clear hk_ hv_ hc_
          refine hK.out _ _ ⟨pw_cell_below HB11.out HP0.out, pw_cell_below HB11.out HP1.out⟩ (fun hHeld => ?_)
          clear hK K
          refine norm_ (a' := ?_) ?_ ?_
          rotate_left
          · show Act.put _ (some 44) _ = _
            simp only [Act.put, List.setIfInBounds_toArray, List.set_cons_zero, List.set_cons_succ, i64_w, i32_w]
            rfl
          refine one_ (i := 23) (N := some 56) #[true, true, true, true, true, true, true, true, true, true, true, true, true, true, true, true, true, true, true, true, true, true, true, true, false, false, false, false, false, false, false, false, false, false, false, false, false, false, false, false, false, false, false, false, false, false, false] rfl rfl (by kernel_rfl) (by decide) (fun K hK => ?_)
          have hc_ := radd_calls HW11.out HA7.out HB7.out HL1.out HL2.out x y
          unfold RAddPost at hc_
          rw [HRK.out] at hc_
          refine goes_ Try.func23 (by kernel_rfl) rfl #[.pointer (some ⟨gw, 0, none⟩), .int .i64 x, .bool y] (by rfl) rfl rfl (by simp only [List.map_toArray, List.map_cons, List.map_nil]; rfl) ?_
          with_reducible refine (hc_).mono ?_
          rintro e_ x23 ⟨rfl, hk_, hw_⟩
          refine ⟨_, rfl, ?_⟩
          have HV23 := Aside0.mk (HV11.out.far hk_ (far_of HW11.out))
          have HC23 := Aside0.mk (HC11.out.far hk_ (far_of HW11.out))
          have HW23 := Aside0.mk hw_
          have HB23 := Aside0.mk (below_kept HB11.out HB11.out.size (fun k hk => by rcases hk with hk | hk; (subst hk; exact HGE.out.2.1); exact Nat.le_trans HGE.out.2.2 hk) hk_)
          clear hk_ hw_ hc_
          refine hK.out _ _ ⟨pw_cell_below HB23.out HP0.out, pw_cell_below HB23.out HP1.out⟩ (fun hHeld => ?_)
          clear hK K
          refine norm_ (a' := ?_) ?_ ?_
          rotate_left
          · show Act.put _ (some 56) _ = _
            simp only [Act.put, List.setIfInBounds_toArray, List.set_cons_zero, List.set_cons_succ, i64_w, i32_w]
            rfl
          refine pure_ (i := 24) (N := some 57) (v := ?_) (a' := ?_) #[true, true, true, true, true, true, true, true, true, true, true, true, true, true, true, true, true, true, true, true, true, true, true, true, true, false, false, false, false, false, false, false, false, false, false, false, false, false, false, false, false, false, false, false, false, false, false] rfl rfl (by kernel_rfl) (fun _ _ _ h => h) (Or.inl ⟨by rfl, ?_⟩) ?_ ?_
          rotate_left
          · intro w'
            go_simp
            with_reducible rfl
          rotate_left
          · simp only [Act.put, List.setIfInBounds_toArray, List.set_cons_zero, List.set_cons_succ, i64_w, i32_w]
            rfl
          refine pure_ (i := 25) (N := some 58) (v := ?_) (a' := ?_) #[true, true, true, true, true, true, true, true, true, true, true, true, true, true, true, true, true, true, true, true, true, true, true, true, true, true, false, false, false, false, false, false, false, false, false, false, false, false, false, false, false, false, false, false, false, false, false] rfl rfl (by kernel_rfl) (fun _ _ _ h => h) (Or.inl ⟨by rfl, ?_⟩) ?_ ?_
          rotate_left
          · intro w'
            go_simp
            with_reducible rfl
          rotate_left
          · simp only [Act.put, List.setIfInBounds_toArray, List.set_cons_zero, List.set_cons_succ, i64_w, i32_w]
            rfl
          refine pure_ (i := 26) (N := some 59) (v := ?_) (a' := ?_) #[true, true, true, true, true, true, true, true, true, true, true, true, true, true, true, true, true, true, true, true, true, true, true, true, true, true, true, false, false, false, false, false, false, false, false, false, false, false, false, false, false, false, false, false, false, false, false] rfl rfl (by kernel_rfl) (fun _ _ _ h => h) (Or.inl ⟨by rfl, ?_⟩) ?_ ?_
          rotate_left
          · intro w'
            go_simp
            with_reducible rfl
          rotate_left
          · simp only [Act.put, List.setIfInBounds_toArray, List.set_cons_zero, List.set_cons_succ, i64_w, i32_w]
            rfl
          refine pure_ (i := 28) (N := some 61) (v := ?_) (a' := ?_) #[true, true, true, true, true, true, true, true, true, true, true, true, true, true, true, true, true, true, true, true, true, true, true, true, true, true, true, false, true, false, false, false, false, false, false, false, false, false, false, false, false, false, false, false, false, false, false] rfl rfl (by kernel_rfl) (fun _ _ _ h => h) (Or.inl ⟨by rfl, ?_⟩) ?_ ?_
          rotate_left
          · intro w'
            go_simp
            with_reducible rfl
          rotate_left
          · simp only [Act.put, List.setIfInBounds_toArray, List.set_cons_zero, List.set_cons_succ, i64_w, i32_w]
            rfl
          refine one_ (i := 27) (N := some 60) #[true, true, true, true, true, true, true, true, true, true, true, true, true, true, true, true, true, true, true, true, true, true, true, true, true, true, true, true, true, false, false, false, false, false, false, false, false, false, false, false, false, false, false, false, false, false, false] rfl rfl (by kernel_rfl) (by decide) (fun K hK => ?_)
          have hc_ := won_calls HV23.out.isV HA7.out HB7.out HLV.out
          rw [HQW.out] at hc_
          refine goes_ Try.func24 (by kernel_rfl) rfl #[.pointer (some ⟨gv, 0, none⟩)] (by rfl) rfl rfl (by simp only [List.map_toArray, List.map_cons, List.map_nil]; rfl) ?_
          with_reducible refine (hc_).mono ?_
          rintro e_ x27 ⟨rfl, hb_⟩
          refine ⟨_, rfl, ?_⟩
          have HV27 := Aside0.mk (HV23.out.below hb_)
          have HW27 := Aside0.mk (HW23.out.below hb_)
          have HC27 := Aside0.mk (HC23.out.below hb_)
          have HB27 := Aside0.mk (below_then HB23.out HB23.out.size hb_)
          clear hb_ hc_
          refine hK.out _ _ ⟨pw_cell_below HB27.out HP0.out, pw_cell_below HB27.out HP1.out⟩ (fun hHeld => ?_)
          clear hK K
          refine norm_ (a' := ?_) ?_ ?_
          rotate_left
          · show Act.put _ (some 60) _ = _
            simp only [Act.put, List.setIfInBounds_toArray, List.set_cons_zero, List.set_cons_succ, i64_w, i32_w]
            rfl
          refine one_ (i := 29) (N := some 62) #[true, true, true, true, true, true, true, true, true, true, true, true, true, true, true, true, true, true, true, true, true, true, true, true, true, true, true, true, true, true, false, false, false, false, false, false, false, false, false, false, false, false, false, false, false, false, false] rfl rfl (by kernel_rfl) (by decide) (fun K hK => ?_)
          have hc_ := rwon_calls HW27.out HA7.out HB7.out HLY.out
          rw [HQR.out] at hc_
          refine goes_ Try.func25 (by kernel_rfl) rfl #[.pointer (some ⟨gw, 0, none⟩)] (by rfl) rfl rfl (by simp only [List.map_toArray, List.map_cons, List.map_nil]; rfl) ?_
          with_reducible refine (hc_).mono ?_
          rintro e_ x29 ⟨rfl, hb_⟩
          refine ⟨_, rfl, ?_⟩
          have HV29 := Aside0.mk (HV27.out.below hb_)
          have HW29 := Aside0.mk (HW27.out.below hb_)
          have HC29 := Aside0.mk (HC27.out.below hb_)
          have HB29 := Aside0.mk (below_then HB27.out HB27.out.size hb_)
          clear hb_ hc_
          refine hK.out _ _ ⟨pw_cell_below HB29.out HP0.out, pw_cell_below HB29.out HP1.out⟩ (fun hHeld => ?_)
          clear hK K
          refine norm_ (a' := ?_) ?_ ?_
          rotate_left
          · show Act.put _ (some 62) _ = _
            simp only [Act.put, List.setIfInBounds_toArray, List.set_cons_zero, List.set_cons_succ, i64_w, i32_w]
            rfl
          refine pure_ (i := 30) (N := some 63) (v := ?_) (a' := ?_) #[true, true, true, true, true, true, true, true, true, true, true, true, true, true, true, true, true, true, true, true, true, true, true, true, true, true, true, true, true, true, true, false, false, false, false, false, false, false, false, false, false, false, false, false, false, false, false] rfl rfl (by kernel_rfl) (fun _ _ _ h => h) (Or.inl ⟨by rfl, ?_⟩) ?_ ?_
          rotate_left
          · intro w'
            go_simp
            with_reducible rfl
          rotate_left
          · simp only [Act.put, List.setIfInBounds_toArray, List.set_cons_zero, List.set_cons_succ, i64_w, i32_w]
            rfl
          refine pure_ (i := 31) (N := some 64) (v := ?_) (a' := ?_) #[true, true, true, true, true, true, true, true, true, true, true, true, true, true, true, true, true, true, true, true, true, true, true, true, true, true, true, true, true, true, true, true, false, false, false, false, false, false, false, false, false, false, false, false, false, false, false] rfl rfl (by kernel_rfl) (fun _ _ _ h => h) (Or.inl ⟨by rfl, ?_⟩) ?_ ?_
          rotate_left
          · intro w'
            go_simp
            with_reducible rfl
          rotate_left
          · simp only [Act.put, List.setIfInBounds_toArray, List.set_cons_zero, List.set_cons_succ, i64_w, i32_w]
            rfl
          refine pure_ (i := 32) (N := some 65) (v := ?_) (a' := ?_) #[true, true, true, true, true, true, true, true, true, true, true, true, true, true, true, true, true, true, true, true, true, true, true, true, true, true, true, true, true, true, true, true, true, false, false, false, false, false, false, false, false, false, false, false, false, false, false] rfl rfl (by kernel_rfl) (fun _ _ _ h => h) (Or.inl ⟨by rfl, ?_⟩) ?_ ?_
          rotate_left
          · intro w'
            go_simp
            with_reducible rfl
          rotate_left
          · simp only [Act.put, List.setIfInBounds_toArray, List.set_cons_zero, List.set_cons_succ, i64_w, i32_w]
            rfl
          refine pure_ (i := 33) (N := some 66) (v := ?_) (a' := ?_) #[true, true, true, true, true, true, true, true, true, true, true, true, true, true, true, true, true, true, true, true, true, true, true, true, true, true, true, true, true, true, true, true, true, true, false, false, false, false, false, false, false, false, false, false, false, false, false] rfl rfl (by kernel_rfl) (fun _ _ _ h => h) (Or.inl ⟨by rfl, ?_⟩) ?_ ?_
          rotate_left
          · intro w'
            go_simp
            with_reducible rfl
          rotate_left
          · simp only [Act.put, List.setIfInBounds_toArray, List.set_cons_zero, List.set_cons_succ, i64_w, i32_w]
            rfl
          refine pure_ (i := 35) (N := some 68) (v := ?_) (a' := ?_) #[true, true, true, true, true, true, true, true, true, true, true, true, true, true, true, true, true, true, true, true, true, true, true, true, true, true, true, true, true, true, true, true, true, true, false, true, false, false, false, false, false, false, false, false, false, false, false] rfl rfl (by kernel_rfl) (fun _ _ _ h => h) (Or.inl ⟨by rfl, ?_⟩) ?_ ?_
          rotate_left
          · intro w'
            go_simp
            with_reducible rfl
          rotate_left
          · simp only [Act.put, List.setIfInBounds_toArray, List.set_cons_zero, List.set_cons_succ, i64_w, i32_w]
            rfl
          refine one_ (i := 34) (N := some 67) #[true, true, true, true, true, true, true, true, true, true, true, true, true, true, true, true, true, true, true, true, true, true, true, true, true, true, true, true, true, true, true, true, true, true, true, true, false, false, false, false, false, false, false, false, false, false, false] rfl rfl (by kernel_rfl) (by decide) (fun K hK => ?_)
          have hc_ := lost_calls HV29.out.isV HA7.out HB7.out HB1.out HMW.out
          rw [HQL.out] at hc_
          refine goes_ Try.func26 (by kernel_rfl) rfl #[.pointer (some ⟨gv, 0, none⟩)] (by rfl) rfl rfl (by simp only [List.map_toArray, List.map_cons, List.map_nil]; rfl) ?_
          with_reducible refine (hc_).mono ?_
          rintro e_ x34 ⟨rfl, hb_⟩
          refine ⟨_, rfl, ?_⟩
          have HV34 := Aside0.mk (HV29.out.below hb_)
          have HW34 := Aside0.mk (HW29.out.below hb_)
          have HC34 := Aside0.mk (HC29.out.below hb_)
          have HB34 := Aside0.mk (below_then HB29.out HB29.out.size hb_)
          clear hb_ hc_
          refine hK.out _ _ ⟨pw_cell_below HB34.out HP0.out, pw_cell_below HB34.out HP1.out⟩ (fun hHeld => ?_)
          clear hK K
          refine norm_ (a' := ?_) ?_ ?_
          rotate_left
          · show Act.put _ (some 67) _ = _
            simp only [Act.put, List.setIfInBounds_toArray, List.set_cons_zero, List.set_cons_succ, i64_w, i32_w]
            rfl
          refine one_ (i := 36) (N := some 69) #[true, true, true, true, true, true, true, true, true, true, true, true, true, true, true, true, true, true, true, true, true, true, true, true, true, true, true, true, true, true, true, true, true, true, true, true, true, false, false, false, false, false, false, false, false, false, false] rfl rfl (by kernel_rfl) (by decide) (fun K hK => ?_)
          have hc_ := rlost_calls HW34.out HA7.out HB7.out HLN.out
          rw [HQS.out] at hc_
          refine goes_ Try.func27 (by kernel_rfl) rfl #[.pointer (some ⟨gw, 0, none⟩)] (by rfl) rfl rfl (by simp only [List.map_toArray, List.map_cons, List.map_nil]; rfl) ?_
          with_reducible refine (hc_).mono ?_
          rintro e_ x36 ⟨rfl, hb_⟩
          refine ⟨_, rfl, ?_⟩
          have HV36 := Aside0.mk (HV34.out.below hb_)
          have HW36 := Aside0.mk (HW34.out.below hb_)
          have HC36 := Aside0.mk (HC34.out.below hb_)
          have HB36 := Aside0.mk (below_then HB34.out HB34.out.size hb_)
          clear hb_ hc_
          refine hK.out _ _ ⟨pw_cell_below HB36.out HP0.out, pw_cell_below HB36.out HP1.out⟩ (fun hHeld => ?_)
          clear hK K
          refine norm_ (a' := ?_) ?_ ?_
          rotate_left
          · show Act.put _ (some 69) _ = _
            simp only [Act.put, List.setIfInBounds_toArray, List.set_cons_zero, List.set_cons_succ, i64_w, i32_w]
            rfl
          refine pure_ (i := 37) (N := some 70) (v := ?_) (a' := ?_) #[true, true, true, true, true, true, true, true, true, true, true, true, true, true, true, true, true, true, true, true, true, true, true, true, true, true, true, true, true, true, true, true, true, true, true, true, true, true, false, false, false, false, false, false, false, false, false] rfl rfl (by kernel_rfl) (fun _ _ _ h => h) (Or.inl ⟨by rfl, ?_⟩) ?_ ?_
          rotate_left
          · intro w'
            go_simp
            with_reducible rfl
          rotate_left
          · simp only [Act.put, List.setIfInBounds_toArray, List.set_cons_zero, List.set_cons_succ, i64_w, i32_w]
            rfl
          refine pure_ (i := 38) (N := some 71) (v := ?_) (a' := ?_) #[true, true, true, true, true, true, true, true, true, true, true, true, true, true, true, true, true, true, true, true, true, true, true, true, true, true, true, true, true, true, true, true, true, true, true, true, true, true, true, false, false, false, false, false, false, false, false] rfl rfl (by kernel_rfl) (fun _ _ _ h => h) (Or.inl ⟨by rfl, ?_⟩) ?_ ?_
          rotate_left
          · intro w'
            go_simp
            with_reducible rfl
          rotate_left
          · simp only [Act.put, List.setIfInBounds_toArray, List.set_cons_zero, List.set_cons_succ, i64_w, i32_w]
            rfl
          refine pure_ (i := 39) (N := some 72) (v := ?_) (a' := ?_) #[true, true, true, true, true, true, true, true, true, true, true, true, true, true, true, true, true, true, true, true, true, true, true, true, true, true, true, true, true, true, true, true, true, true, true, true, true, true, true, true, false, false, false, false, false, false, false] rfl rfl (by kernel_rfl) (fun _ _ _ h => h) (Or.inl ⟨by rfl, ?_⟩) ?_ ?_
          rotate_left
          · intro w'
            go_simp
            with_reducible rfl
          rotate_left
          · simp only [Act.put, List.setIfInBounds_toArray, List.set_cons_zero, List.set_cons_succ, i64_w, i32_w]
            rfl
          refine pure_ (i := 40) (N := some 73) (v := ?_) (a' := ?_) #[true, true, true, true, true, true, true, true, true, true, true, true, true, true, true, true, true, true, true, true, true, true, true, true, true, true, true, true, true, true, true, true, true, true, true, true, true, true, true, true, true, false, false, false, false, false, false] rfl rfl (by kernel_rfl) (fun _ _ _ h => h) (Or.inl ⟨by rfl, ?_⟩) ?_ ?_
          rotate_left
          · intro w'
            go_simp
            with_reducible rfl
          rotate_left
          · simp only [Act.put, List.setIfInBounds_toArray, List.set_cons_zero, List.set_cons_succ, i64_w, i32_w]
            rfl
          refine one_ (i := 41) (N := some 74) #[true, true, true, true, true, true, true, true, true, true, true, true, true, true, true, true, true, true, true, true, true, true, true, true, true, true, true, true, true, true, true, true, true, true, true, true, true, true, true, true, true, true, false, false, false, false, false] rfl rfl (by kernel_rfl) (by decide) (fun K hK => ?_)
          have hc_ := won_calls HV36.out.isV HA7.out HB7.out HLV.out
          rw [HQW.out] at hc_
          refine goes_ Try.func24 (by kernel_rfl) rfl #[.pointer (some ⟨gv, 0, none⟩)] (by rfl) rfl rfl (by simp only [List.map_toArray, List.map_cons, List.map_nil]; rfl) ?_
          with_reducible refine (hc_).mono ?_
          rintro e_ x41 ⟨rfl, hb_⟩
          refine ⟨_, rfl, ?_⟩
          have HV41 := Aside0.mk (HV36.out.below hb_)
          have HW41 := Aside0.mk (HW36.out.below hb_)
          have HC41 := Aside0.mk (HC36.out.below hb_)
          have HB41 := Aside0.mk (below_then HB36.out HB36.out.size hb_)
          clear hb_ hc_
          refine hK.out _ _ ⟨pw_cell_below HB41.out HP0.out, pw_cell_below HB41.out HP1.out⟩ (fun hHeld => ?_)
          clear hK K
          refine norm_ (a' := ?_) ?_ ?_
          rotate_left
          · show Act.put _ (some 74) _ = _
            simp only [Act.put, List.setIfInBounds_toArray, List.set_cons_zero, List.set_cons_succ, i64_w, i32_w]
            rfl
          refine pure_ (i := 42) (N := some 75) (v := ?_) (a' := ?_) #[true, true, true, true, true, true, true, true, true, true, true, true, true, true, true, true, true, true, true, true, true, true, true, true, true, true, true, true, true, true, true, true, true, true, true, true, true, true, true, true, true, true, true, false, false, false, false] rfl rfl (by kernel_rfl) (fun _ _ _ h => h) (Or.inl ⟨by rfl, ?_⟩) ?_ ?_
          rotate_left
          · intro w'
            go_simp
            with_reducible rfl
          rotate_left
          · simp only [Act.put, List.setIfInBounds_toArray, List.set_cons_zero, List.set_cons_succ, i64_w, i32_w]
            rfl
          refine pure_ (i := 43) (N := some 76) (v := undef) (a' := ?_) #[true, true, true, true, true, true, true, true, true, true, true, true, true, true, true, true, true, true, true, true, true, true, true, true, true, true, true, true, true, true, true, true, true, true, true, true, true, true, true, true, true, true, true, true, false, false, false] rfl rfl (by kernel_rfl) (fun _ _ _ h => h) (Or.inr ⟨by rfl, rfl⟩) ?_ ?_
          rotate_left
          · simp only [Act.put, List.setIfInBounds_toArray, List.set_cons_zero, List.set_cons_succ, i64_w, i32_w]
            rfl
          refine pure_ (i := 44) (N := some 77) (v := undef) (a' := ?_) #[true, true, true, true, true, true, true, true, true, true, true, true, true, true, true, true, true, true, true, true, true, true, true, true, true, true, true, true, true, true, true, true, true, true, true, true, true, true, true, true, true, true, true, true, true, false, false] rfl rfl (by kernel_rfl) (fun _ _ _ h => h) (Or.inr ⟨by rfl, rfl⟩) ?_ ?_
          rotate_left
          · simp only [Act.put, List.setIfInBounds_toArray, List.set_cons_zero, List.set_cons_succ, i64_w, i32_w]
            rfl
          refine pure_ (i := 45) (N := some 78) (v := ?_) (a' := ?_) #[true, true, true, true, true, true, true, true, true, true, true, true, true, true, true, true, true, true, true, true, true, true, true, true, true, true, true, true, true, true, true, true, true, true, true, true, true, true, true, true, true, true, true, true, true, true, false] rfl rfl (by kernel_rfl) (fun _ _ _ h => h) (Or.inl ⟨by rfl, ?_⟩) ?_ ?_
          rotate_left
          · intro w'
            go_simp
            with_reducible rfl
          rotate_left
          · simp only [Act.put, List.setIfInBounds_toArray, List.set_cons_zero, List.set_cons_succ, i64_w, i32_w]
            rfl
          refine pure_ (i := 46) (N := some 79) (v := ?_) (a' := ?_) #[true, true, true, true, true, true, true, true, true, true, true, true, true, true, true, true, true, true, true, true, true, true, true, true, true, true, true, true, true, true, true, true, true, true, true, true, true, true, true, true, true, true, true, true, true, true, true] rfl rfl (by kernel_rfl) (fun _ _ _ h => h) (Or.inl ⟨by rfl, ?_⟩) ?_ ?_
          rotate_left
          · intro w'
            go_simp
            with_reducible rfl
          rotate_left
          · simp only [Act.put, List.setIfInBounds_toArray, List.set_cons_zero, List.set_cons_succ, i64_w, i32_w]
            rfl
          refine done_ (by kernel_rfl) ?_
          go_wp2
          go_roundw
          case rel => exact ⟨i + 1, _, _, _, by first | rfl | (rw [hwi]; rfl), by omega, by omega, HI1, HLT, HV41, HW41, HC41, HB41⟩
          case measure => exact meas_step_ (by omega : i < 40) (by first | rfl | exact hwi)
end Go.Proofs.Ytbomomaidglegaa.Votes
