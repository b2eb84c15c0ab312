/- The document's votes: Won and Lost, by hand. -/
import Derived.Test.YtbomomaidglegaaVotes5
namespace Go.Proofs.Ytbomomaidglegaa.Votes
open Go Go.RowKit Go.Maps Go.Proofs.Ytbomomaidglegaa.XTally Go.Proofs.YtbomomaidglegaaW.PrintWords Go.Proofs.YtbomomaidglegaaW.PrintLast Go.Proofs.YtbomomaidglegaaW.PrintMore
set_option linter.unusedVariables false
set_option linter.unusedSimpArgs false

set_option maxHeartbeats 4000000 in
set_option maxRecDepth 100000 in
theorem rwon_calls {B Z : Nat} {W : World} {gw : Nat} {o n yes no : List Int} (h : Wz B Z W gw o n yes no) (ho : o.length ≤ 1000) (hn : n.length ≤ 1000) (hy : yes.length ≤ 1000) :
    Calls Try.prog 25 #[.pointer (some ⟨gw, 0, none⟩)] W (BoolPost W (CP.quorum o n yes)) := by
  obtain ⟨Ao, co, An, cn, Ay, cy, Aw, cw, hg, h1, h2, h3, h4, hz, hB, hs⟩ := h
  have hu26 := Try.underlying26
  have HX0 := Aside0.mk (show W.drew.cell? ⟨gw, 0, none⟩ = some (.slice Ao o.length co) from (blk_cell hg 0).trans rfl)
  have HX1 := Aside0.mk (show W.drew.cell? ⟨gw, 1, none⟩ = some (.slice An n.length cn) from (blk_cell hg 1).trans rfl)
  have HX2 := Aside0.mk (show W.drew.cell? ⟨gw, 2, none⟩ = some (.slice Ay yes.length cy) from (blk_cell hg 2).trans rfl)
  have hbd := below_drew (Below.refl W.heap.size W)
  have HBD := Aside0.mk hbd
  have HQ := Aside0.mk (synodalref8_Quorum.calls 4000 Ao co o An cn n Ay cy yes _ W.drew (Kd.C_below (Kd.R_reads' h1).2.2 hbd) (Kd.R_reads' h1).2.1 (Kd.C_below (Kd.R_reads' h2).2.2 hbd) (Kd.R_reads' h2).2.1 (Kd.C_below (Kd.R_reads' h3).2.2 hbd) (Kd.R_reads' h3).2.1 (quorum8_f o n yes (by omega) (by omega) (by omega) 4000 (by omega)))
  clear h1 h2 h3 h4 hg ho hn hy hbd
  go_enter Try.func25, Try.ntmps25
  go_upto_region 1 with (fail)
  refine start_ (n := 10) (S := fun w' => w'.cell? ⟨gw, 0, none⟩ = some (Value.slice Ao o.length co) ∧ w'.cell? ⟨gw, 1, none⟩ = some (Value.slice An n.length cn) ∧ w'.cell? ⟨gw, 2, none⟩ = some (Value.slice Ay yes.length cy)) (ds := [8]) #[false, false, false, false, false, false, false, false, false, false] (by kernel_rfl) rfl rfl ⟨HX0.out, HX1.out, HX2.out⟩ (fun hHeld => ?_)
  generalize W.drew = wd at HX0 HX1 HX2 HQ HBD hHeld ⊢
  refine pure_ (i := 0) (N := some 3) (v := ?_) (a' := ?_) #[true, false, false, false, false, false, false, false, false, false] rfl rfl (by kernel_rfl) (fun _ _ _ h => h) (Or.inl ⟨by rfl, ?_⟩) ?_ ?_
  rotate_left
  · intro w'
    go_simp
    with_reducible rfl
  rotate_left
  · simp only [Act.put, List.setIfInBounds_toArray, List.set_cons_zero, List.set_cons_succ, i64_w, i32_w]
    rfl
  refine pure_ (i := 1) (N := some 4) (v := ?_) (a' := ?_) #[true, true, false, false, false, false, false, false, false, false] rfl rfl (by kernel_rfl) (fun _ _ _ h => h) (Or.inl ⟨by rfl, ?_⟩) ?_ ?_
  rotate_left
  · intro w'
    go_simp
    with_reducible rfl
  rotate_left
  · simp only [Act.put, List.setIfInBounds_toArray, List.set_cons_zero, List.set_cons_succ, i64_w, i32_w]
    rfl
  refine pure_ (i := 2) (N := some 5) (v := ?_) (a' := ?_) #[true, true, true, false, false, false, false, false, false, false] rfl rfl (by kernel_rfl) (fun _ _ _ h => h) (Or.inl ⟨by rfl, ?_⟩) ?_ ?_
  rotate_left
  · intro w'
    go_simp
    with_reducible rfl
  rotate_left
  · simp only [Act.put, List.setIfInBounds_toArray, List.set_cons_zero, List.set_cons_succ, i64_w, i32_w]
    rfl
  refine pure_ (i := 4) (N := some 7) (v := ?_) (a' := ?_) #[true, true, true, false, true, false, false, false, false, false] rfl rfl (by kernel_rfl) (fun _ _ _ h => h) (Or.inl ⟨by rfl, ?_⟩) ?_ ?_
  rotate_left
  · intro w'
    go_simp
    with_reducible rfl
  rotate_left
  · simp only [Act.put, List.setIfInBounds_toArray, List.set_cons_zero, List.set_cons_succ, i64_w, i32_w]
    rfl
  refine pure_ (i := 5) (N := some 8) (v := ?_) (a' := ?_) #[true, true, true, false, true, true, false, false, false, false] rfl rfl (by kernel_rfl) (fun _ _ _ h => h) (Or.inl ⟨by rfl, ?_⟩) ?_ ?_
  rotate_left
  · intro w'
    go_simp
    with_reducible rfl
  rotate_left
  · simp only [Act.put, List.setIfInBounds_toArray, List.set_cons_zero, List.set_cons_succ, i64_w, i32_w]
    rfl
  refine pure_ (i := 6) (N := some 9) (v := ?_) (a' := ?_) #[true, true, true, false, true, true, true, false, false, false] rfl rfl (by kernel_rfl) (fun _ _ _ h => h) (Or.inl ⟨by rfl, ?_⟩) ?_ ?_
  rotate_left
  · intro w'
    go_simp
    with_reducible rfl
  rotate_left
  · simp only [Act.put, List.setIfInBounds_toArray, List.set_cons_zero, List.set_cons_succ, i64_w, i32_w]
    rfl
  refine take_ (i := 3) (N := some 6) (v := ?_) (a' := ?_) #[true, true, true, true, true, true, true, false, false, false] rfl rfl (by kernel_rfl) (fun _ _ _ h => h) (Or.inl ⟨by rfl, ?_⟩) hHeld ?_ ?_
  rotate_left
  · rintro w' ⟨s0, s1, s2⟩
    go_simp
    with_reducible rfl
  rotate_left
  · simp only [Act.put, List.setIfInBounds_toArray, List.set_cons_zero, List.set_cons_succ, i64_w, i32_w]
    rfl
  refine take_ (i := 7) (N := some 10) (v := ?_) (a' := ?_) #[true, true, true, true, true, true, true, true, false, false] rfl rfl (by kernel_rfl) (fun _ _ _ h => h) (Or.inl ⟨by rfl, ?_⟩) hHeld ?_ ?_
  rotate_left
  · rintro w' ⟨s0, s1, s2⟩
    go_simp
    with_reducible rfl
  rotate_left
  · simp only [Act.put, List.setIfInBounds_toArray, List.set_cons_zero, List.set_cons_succ, i64_w, i32_w]
    rfl
  refine last_ (i := 8) (N := some 11) #[true, true, true, true, true, true, true, true, true, false] rfl rfl (by kernel_rfl) (by decide) (fun K hK => ?_)
  refine goes_ Try.func62 (by kernel_rfl) rfl #[.agg #[.slice Ao o.length co, .slice An n.length cn], .slice Ay yes.length cy] (by rfl) rfl rfl (by simp only [List.map_toArray, List.map_cons, List.map_nil]; rfl) ?_
  with_reducible refine (HQ.out).mono ?_
  rintro e_ x8 ⟨rfl, hb8⟩
  refine ⟨_, rfl, ?_⟩
  have HB8 := Aside0.mk hb8
  clear hb8
  refine hK.out _ _ ?_
  clear hK K
  refine norm_ (a' := ?_) ?_ ?_
  rotate_left
  · show Act.put _ (some 11) _ = _
    simp only [Act.put, List.setIfInBounds_toArray, List.set_cons_zero, List.set_cons_succ, i64_w, i32_w]
    rfl
  refine pure_ (i := 9) (N := some 2) (v := ?_) (a' := ?_) #[true, true, true, true, true, true, true, true, true, true] rfl rfl (by kernel_rfl) (fun _ _ _ h => h) (Or.inl ⟨by rfl, ?_⟩) ?_ ?_
  rotate_left
  · intro w'
    go_simp
    with_reducible rfl
  rotate_left
  · simp only [Act.put, List.setIfInBounds_toArray, List.set_cons_zero, List.set_cons_succ, i64_w, i32_w]
    rfl
  refine done_ (by kernel_rfl) ?_
  go_wp2
  go_ret
  exact ⟨rfl, below_then HBD.out HBD.out.size HB8.out⟩

/-- Who has not said no. -/
def leftR (no l : List Int) : List Int := l.filter (fun x => !decide (x ∈ no))
theorem leftR_snoc (no l : List Int) (x : Int) : leftR no (l ++ [x]) = leftR no l ++ (if (!decide (x ∈ no)) = true then [x] else []) := by
  unfold leftR
  rw [List.filter_append]
  congr 1
  simp only [List.filter_cons, List.filter_nil]
theorem leftR_le (no l : List Int) : (leftR no l).length ≤ l.length := List.length_filter_le _ _

set_option maxHeartbeats 4000000 in
set_option maxRecDepth 100000 in
theorem rlost_calls {B Z : Nat} {W : World} {gw : Nat} {o n yes no : List Int} (h : Wz B Z W gw o n yes no) (ho : o.length ≤ 1000) (hn : n.length ≤ 1000) (hw : no.length ≤ 1000) :
    Calls Try.prog 27 #[.pointer (some ⟨gw, 0, none⟩)] W (BoolPost W (!CP.quorum o n (leftR no (mem8 o n 9)))) := by
  obtain ⟨Ao, co, An, cn, Ay, cy, Aw, cw, hg, h1, h2, h3, h4, hz, hB, hs⟩ := h
  have c0 : W.cell? ⟨gw, 0, none⟩ = some (.slice Ao o.length co) := (blk_cell hg 0).trans rfl
  have c1 : W.cell? ⟨gw, 1, none⟩ = some (.slice An n.length cn) := (blk_cell hg 1).trans rfl
  have hu26 := Try.underlying26
  have HR := Aside0.mk (Kd.R_reads' h1)
  have HS := Aside0.mk (Kd.R_reads' h2)
  have HNN := Aside0.mk h4
  have HG := Aside0.mk hg
  have HO := Aside0.mk ho
  have HN := Aside0.mk hn
  have HW := Aside0.mk hw
  obtain ⟨ms, hms⟩ : ∃ ms, mem8 o n 9 = ms := ⟨_, rfl⟩
  have HF := Aside0.mk (show synodalref8_Members.f 1010 o n = some ms by rw [members8_f o n ho hn, hms])
  have hml : ms.length ≤ 9 := by rw [← hms]; exact mem8_le o n 9
  have HLN := Aside0.mk (show ∀ i, (leftR no (ms.take i)).length ≤ 9 from fun i => by have h1 := leftR_le no (ms.take i); rw [List.length_take] at h1; omega)
  rw [hms]
  clear h1 h2 h3 h4 hg ho hn hw hms
  go_enter Try.func27, Try.ntmps27
  go_wp2_with (first
    | (go_at_call 28; refine (synodalref8_Members.calls 1010 Ao co o An cn n ms _ HR.out.2.2 HR.out.2.1 HS.out.2.2 HS.out.2.1 HF.out).mono ?_; rintro e_ w1 ⟨v0_, rfl, hr_, hb_⟩; obtain ⟨Am, cm, e0_⟩ := Kd.R_slice hr_; subst e0_; have HMS := Aside0.mk (Kd.R_reads' hr_); have HB1 := Aside0.mk hb_; clear hr_ hb_)
    | go_in)
  have HG1 := Aside0.mk (blk_below HG.out HB1.out)
  have HN1 := Aside0.mk (Kd.R_below HNN.out HB1.out)
  clear c0 c1 HG HNN
  go_loopw [3, 5] (fun v3 v5 wr => ∃ (u3 : Value) (i : Nat), u3 = v3 ∧ v5 = .int .i64 (i : Int) ∧ i ≤ ms.length ∧ Aside0 (Kd.R (Kd.int .i64) 3 wr w1.heap.size (fun _ => True) u3 (leftR no (ms.take i))) ∧ Aside0 (Below w1.heap.size w1 wr))
    (fun _ v5 _ => ms.length - (intOf v5).toNat)
  case atStart => exact ⟨_, 0, rfl, rfl, Nat.zero_le _, ⟨Kd.R_nil _ _ _ _ _⟩, ⟨Below.refl _ _⟩⟩
  case round =>
    obtain ⟨u3, i, rfl, rfl, hi, HY, HB⟩ := hrel
    have hwi : wrap64 ((i : Int) + 1) = (i : Int) + 1 := by unfold wrap64; omega
    have HNW := Aside0.mk (Kd.R_below HN1.out HB.out)
    have hgw := blk_below HG1.out HB.out
    have q0 : wr.cell? ⟨gw, 0, none⟩ = some (.slice Ao o.length co) := (blk_cell hgw 0).trans rfl
    have q1 : wr.cell? ⟨gw, 1, none⟩ = some (.slice An n.length cn) := (blk_cell hgw 1).trans rfl
    have q3 : wr.cell? ⟨gw, 3, none⟩ = some (.slice Aw no.length cw) := (blk_cell hgw 3).trans rfl
    clear hgw
    by_cases hlt : i < ms.length
    · obtain ⟨x, hx⟩ : ∃ x, ms[i] = x := ⟨_, rfl⟩
      have htk : ms.take (i + 1) = ms.take i ++ [x] := by rw [List.take_succ_eq_append_getElem hlt, hx]
      have hsn := leftR_snoc no (ms.take i) x
      rw [← htk] at hsn
      have HIX := Aside0.mk (in9_f no x (by have := HW.out; omega) 1001 (by have := HW.out; omega))
      obtain ⟨adm, e2, hx0⟩ := Kd.at_int (Kd.C_below HMS.out.2.2 HB.out) (i : Int) (by omega) (by omega)
      subst e2
      rw [Int.toNat_natCast, show rd ms (i : Int) = x by unfold rd; simp [List.getD, hlt, hx]] at hx0
      have hq := eq_true (show (i : Int) < (ms.length : Int) by omega)
      have hq0 := eq_true (show 0 ≤ (i : Int) by omega)
      have hq2 := decide_eq_true (show (i : Int) < (ms.length : Int) by omega)
      have hq3 := decide_eq_true (show 0 ≤ (i : Int) by omega)
      have hq4 := eq_true hlt
      clear htk hx
      by_cases hxn : x ∈ no
      · have HXN := Aside0.mk hxn
        have HSN := Aside0.mk (show leftR no (ms.take (i + 1)) = leftR no (ms.take i) by rw [hsn, if_neg (by simp [hxn]), List.append_nil])
        clear hsn hxn
        go_upto_region 6 with (fail)
        have HBD := Aside0.mk (below_drew HB.out)
        have HND := Aside0.mk (Kd.R_below HNW.out (below_drew (Below.refl wr.heap.size wr)))
        have HYD := Aside0.mk (Kd.R_below HY.out (below_drew (Below.refl wr.heap.size wr)))
        have HX0 := Aside0.mk (pw_cell_below (below_drew (Below.refl wr.heap.size wr)) q3)
        have HX1 := Aside0.mk (pw_cell_below (below_drew (Below.refl wr.heap.size wr)) hx0)
        refine start_ (n := 10) (S := fun w' => w'.cell? ⟨gw, 3, none⟩ = some (Value.slice Aw no.length cw) ∧ w'.cell? (adm.add i) = some (Value.int .i64 x)) (ds := [8]) #[false, false, false, false, false, false, false, false, false, false] (by kernel_rfl) rfl rfl ⟨HX0.out, HX1.out⟩ (fun hHeld => ?_)
        generalize wr.drew = wd at HBD HND HYD HX0 HX1 hHeld ⊢
        refine pure_ (i := 0) (N := some 17) (v := ?_) (a' := ?_) #[true, false, false, false, false, false, false, false, false, false] rfl rfl (by kernel_rfl) (fun _ _ _ h => h) (Or.inl ⟨by rfl, ?_⟩) ?_ ?_
        rotate_left
        · intro w'
          go_simp
          with_reducible rfl
        rotate_left
        · simp only [Act.put, List.setIfInBounds_toArray, List.set_cons_zero, List.set_cons_succ, i64_w, i32_w]
          rfl
        refine pure_ (i := 1) (N := some 18) (v := ?_) (a' := ?_) #[true, true, false, false, false, false, false, false, false, false] rfl rfl (by kernel_rfl) (fun _ _ _ h => h) (Or.inl ⟨by rfl, ?_⟩) ?_ ?_
        rotate_left
        · intro w'
          go_simp
          with_reducible rfl
        rotate_left
        · simp only [Act.put, List.setIfInBounds_toArray, List.set_cons_zero, List.set_cons_succ, i64_w, i32_w]
          rfl
        refine pure_ (i := 2) (N := some 19) (v := ?_) (a' := ?_) #[true, true, true, false, false, false, false, false, false, false] rfl rfl (by kernel_rfl) (fun _ _ _ h => h) (Or.inl ⟨by rfl, ?_⟩) ?_ ?_
        rotate_left
        · intro w'
          go_simp
          with_reducible rfl
        rotate_left
        · simp only [Act.put, List.setIfInBounds_toArray, List.set_cons_zero, List.set_cons_succ, i64_w, i32_w]
          rfl
        refine pure_ (i := 4) (N := some 21) (v := ?_) (a' := ?_) #[true, true, true, false, true, false, false, false, false, false] rfl rfl (by kernel_rfl) (fun _ _ _ h => h) (Or.inl ⟨by rfl, ?_⟩) ?_ ?_
        rotate_left
        · intro w'
          go_simp
          with_reducible rfl
        rotate_left
        · simp only [Act.put, List.setIfInBounds_toArray, List.set_cons_zero, List.set_cons_succ, i64_w, i32_w]
          rfl
        refine pure_ (i := 5) (N := some 22) (v := ?_) (a' := ?_) #[true, true, true, false, true, true, false, false, false, false] rfl rfl (by kernel_rfl) (fun _ _ _ h => h) (Or.inl ⟨by rfl, ?_⟩) ?_ ?_
        rotate_left
        · intro w'
          go_simp
          with_reducible rfl
        rotate_left
        · simp only [Act.put, List.setIfInBounds_toArray, List.set_cons_zero, List.set_cons_succ, i64_w, i32_w]
          rfl
        refine pure_ (i := 6) (N := some 23) (v := ?_) (a' := ?_) #[true, true, true, false, true, true, true, false, false, false] rfl rfl (by kernel_rfl) (fun _ _ _ h => h) (Or.inl ⟨by rfl, ?_⟩) ?_ ?_
        rotate_left
        · intro w'
          go_simp
          with_reducible rfl
        rotate_left
        · simp only [Act.put, List.setIfInBounds_toArray, List.set_cons_zero, List.set_cons_succ, i64_w, i32_w]
          rfl
        refine take_ (i := 3) (N := some 20) (v := ?_) (a' := ?_) #[true, true, true, true, true, true, true, false, false, false] rfl rfl (by kernel_rfl) (fun _ _ _ h => h) (Or.inl ⟨by rfl, ?_⟩) hHeld ?_ ?_
        rotate_left
        · rintro w' ⟨s0, s1⟩
          go_simp
          with_reducible rfl
        rotate_left
        · simp only [Act.put, List.setIfInBounds_toArray, List.set_cons_zero, List.set_cons_succ, i64_w, i32_w]
          rfl
        refine take_ (i := 7) (N := some 24) (v := ?_) (a' := ?_) #[true, true, true, true, true, true, true, true, false, false] rfl rfl (by kernel_rfl) (fun _ _ _ h => h) (Or.inl ⟨by rfl, ?_⟩) hHeld ?_ ?_
        rotate_left
        · rintro w' ⟨s0, s1⟩
          go_simp
          with_reducible rfl
        rotate_left
        · simp only [Act.put, List.setIfInBounds_toArray, List.set_cons_zero, List.set_cons_succ, i64_w, i32_w]
          rfl
        refine last_ (i := 8) (N := some 25) #[true, true, true, true, true, true, true, true, true, false] rfl rfl (by kernel_rfl) (by decide) (fun K hK => ?_)
        have hin_ := synodalref9_in.calls 1001 Aw cw no x true wd (Kd.R_reads' HND.out).2.2 (Kd.R_reads' HND.out).2.1 (by rw [HIX.out]; simp [HXN.out])
        refine goes_ Try.func61 (by kernel_rfl) rfl #[.slice Aw no.length cw, .int .i64 x] (by rfl) rfl rfl (by simp only [List.map_toArray, List.map_cons, List.map_nil]; rfl) ?_
        with_reducible refine (hin_).mono ?_
        rintro e_ x8 ⟨rfl, hd8⟩
        refine ⟨_, rfl, ?_⟩
        have HD8 := Aside0.mk hd8
        clear hd8 hin_
        refine hK.out _ _ ?_
        clear hK K
        refine norm_ (a' := ?_) ?_ ?_
        rotate_left
        · show Act.put _ (some 25) _ = _
          simp only [Act.put, List.setIfInBounds_toArray, List.set_cons_zero, List.set_cons_succ, i64_w, i32_w]
          rfl
        refine pure_ (i := 9) (N := some 26) (v := ?_) (a' := ?_) #[true, true, true, true, true, true, true, true, true, true] rfl rfl (by kernel_rfl) (fun _ _ _ h => h) (Or.inl ⟨by rfl, ?_⟩) ?_ ?_
        rotate_left
        · intro w'
          go_simp
          with_reducible rfl
        rotate_left
        · simp only [Act.put, List.setIfInBounds_toArray, List.set_cons_zero, List.set_cons_succ, i64_w, i32_w]
          rfl
        refine done_ (by kernel_rfl) ?_
        have HB8 := Aside0.mk (below_then HBD.out HBD.out.size (drawn_below HD8.out))
        have HY8 := Aside0.mk (Kd.R_below HYD.out (drawn_below HD8.out))
        have hx8 := pw_cell_below (drawn_below HD8.out) HX1.out
        go_wp2
        go_roundw
        case rel => exact ⟨_, i + 1, rfl, by first | rfl | (rw [hwi]; rfl), hlt, ⟨by rw [HSN.out]; exact HY8.out⟩, HB8⟩
        case measure => exact meas_step_ hlt (by first | rfl | exact hwi)
      · have HXN := Aside0.mk hxn
        have HSN := Aside0.mk (show leftR no (ms.take (i + 1)) = leftR no (ms.take i) ++ [x] by rw [hsn, if_pos (by simp [hxn])])
        clear hsn hxn
        go_upto_region 6 with (fail)
        have HBD := Aside0.mk (below_drew HB.out)
        have HND := Aside0.mk (Kd.R_below HNW.out (below_drew (Below.refl wr.heap.size wr)))
        have HYD := Aside0.mk (Kd.R_below HY.out (below_drew (Below.refl wr.heap.size wr)))
        have HX0 := Aside0.mk (pw_cell_below (below_drew (Below.refl wr.heap.size wr)) q3)
        have HX1 := Aside0.mk (pw_cell_below (below_drew (Below.refl wr.heap.size wr)) hx0)
        refine start_ (n := 10) (S := fun w' => w'.cell? ⟨gw, 3, none⟩ = some (Value.slice Aw no.length cw) ∧ w'.cell? (adm.add i) = some (Value.int .i64 x)) (ds := [8]) #[false, false, false, false, false, false, false, false, false, false] (by kernel_rfl) rfl rfl ⟨HX0.out, HX1.out⟩ (fun hHeld => ?_)
        generalize wr.drew = wd at HBD HND HYD HX0 HX1 hHeld ⊢
        refine pure_ (i := 0) (N := some 17) (v := ?_) (a' := ?_) #[true, false, false, false, false, false, false, false, false, false] rfl rfl (by kernel_rfl) (fun _ _ _ h => h) (Or.inl ⟨by rfl, ?_⟩) ?_ ?_
        rotate_left
        · intro w'
          go_simp
          with_reducible rfl
        rotate_left
        · simp only [Act.put, List.setIfInBounds_toArray, List.set_cons_zero, List.set_cons_succ, i64_w, i32_w]
          rfl
        refine pure_ (i := 1) (N := some 18) (v := ?_) (a' := ?_) #[true, true, false, false, false, false, false, false, false, false] rfl rfl (by kernel_rfl) (fun _ _ _ h => h) (Or.inl ⟨by rfl, ?_⟩) ?_ ?_
        rotate_left
        · intro w'
          go_simp
          with_reducible rfl
        rotate_left
        · simp only [Act.put, List.setIfInBounds_toArray, List.set_cons_zero, List.set_cons_succ, i64_w, i32_w]
          rfl
        refine pure_ (i := 2) (N := some 19) (v := ?_) (a' := ?_) #[true, true, true, false, false, false, false, false, false, false] rfl rfl (by kernel_rfl) (fun _ _ _ h => h) (Or.inl ⟨by rfl, ?_⟩) ?_ ?_
        rotate_left
        · intro w'
          go_simp
          with_reducible rfl
        rotate_left
        · simp only [Act.put, List.setIfInBounds_toArray, List.set_cons_zero, List.set_cons_succ, i64_w, i32_w]
          rfl
        refine pure_ (i := 4) (N := some 21) (v := ?_) (a' := ?_) #[true, true, true, false, true, false, false, false, false, false] rfl rfl (by kernel_rfl) (fun _ _ _ h => h) (Or.inl ⟨by rfl, ?_⟩) ?_ ?_
        rotate_left
        · intro w'
          go_simp
          with_reducible rfl
        rotate_left
        · simp only [Act.put, List.setIfInBounds_toArray, List.set_cons_zero, List.set_cons_succ, i64_w, i32_w]
          rfl
        refine pure_ (i := 5) (N := some 22) (v := ?_) (a' := ?_) #[true, true, true, false, true, true, false, false, false, false] rfl rfl (by kernel_rfl) (fun _ _ _ h => h) (Or.inl ⟨by rfl, ?_⟩) ?_ ?_
        rotate_left
        · intro w'
          go_simp
          with_reducible rfl
        rotate_left
        · simp only [Act.put, List.setIfInBounds_toArray, List.set_cons_zero, List.set_cons_succ, i64_w, i32_w]
          rfl
        refine pure_ (i := 6) (N := some 23) (v := ?_) (a' := ?_) #[true, true, true, false, true, true, true, false, false, false] rfl rfl (by kernel_rfl) (fun _ _ _ h => h) (Or.inl ⟨by rfl, ?_⟩) ?_ ?_
        rotate_left
        · intro w'
          go_simp
          with_reducible rfl
        rotate_left
        · simp only [Act.put, List.setIfInBounds_toArray, List.set_cons_zero, List.set_cons_succ, i64_w, i32_w]
          rfl
        refine take_ (i := 3) (N := some 20) (v := ?_) (a' := ?_) #[true, true, true, true, true, true, true, false, false, false] rfl rfl (by kernel_rfl) (fun _ _ _ h => h) (Or.inl ⟨by rfl, ?_⟩) hHeld ?_ ?_
        rotate_left
        · rintro w' ⟨s0, s1⟩
          go_simp
          with_reducible rfl
        rotate_left
        · simp only [Act.put, List.setIfInBounds_toArray, List.set_cons_zero, List.set_cons_succ, i64_w, i32_w]
          rfl
        refine take_ (i := 7) (N := some 24) (v := ?_) (a' := ?_) #[true, true, true, true, true, true, true, true, false, false] rfl rfl (by kernel_rfl) (fun _ _ _ h => h) (Or.inl ⟨by rfl, ?_⟩) hHeld ?_ ?_
        rotate_left
        · rintro w' ⟨s0, s1⟩
          go_simp
          with_reducible rfl
        rotate_left
        · simp only [Act.put, List.setIfInBounds_toArray, List.set_cons_zero, List.set_cons_succ, i64_w, i32_w]
          rfl
        refine last_ (i := 8) (N := some 25) #[true, true, true, true, true, true, true, true, true, false] rfl rfl (by kernel_rfl) (by decide) (fun K hK => ?_)
        have hin_ := synodalref9_in.calls 1001 Aw cw no x false wd (Kd.R_reads' HND.out).2.2 (Kd.R_reads' HND.out).2.1 (by rw [HIX.out]; simp [HXN.out])
        refine goes_ Try.func61 (by kernel_rfl) rfl #[.slice Aw no.length cw, .int .i64 x] (by rfl) rfl rfl (by simp only [List.map_toArray, List.map_cons, List.map_nil]; rfl) ?_
        with_reducible refine (hin_).mono ?_
        rintro e_ x8 ⟨rfl, hd8⟩
        refine ⟨_, rfl, ?_⟩
        have HD8 := Aside0.mk hd8
        clear hd8 hin_
        refine hK.out _ _ ?_
        clear hK K
        refine norm_ (a' := ?_) ?_ ?_
        rotate_left
        · show Act.put _ (some 25) _ = _
          simp only [Act.put, List.setIfInBounds_toArray, List.set_cons_zero, List.set_cons_succ, i64_w, i32_w]
          rfl
        refine pure_ (i := 9) (N := some 26) (v := ?_) (a' := ?_) #[true, true, true, true, true, true, true, true, true, true] rfl rfl (by kernel_rfl) (fun _ _ _ h => h) (Or.inl ⟨by rfl, ?_⟩) ?_ ?_
        rotate_left
        · intro w'
          go_simp
          with_reducible rfl
        rotate_left
        · simp only [Act.put, List.setIfInBounds_toArray, List.set_cons_zero, List.set_cons_succ, i64_w, i32_w]
          rfl
        refine done_ (by kernel_rfl) ?_
        have HB8 := Aside0.mk (below_then HBD.out HBD.out.size (drawn_below HD8.out))
        have HY8 := Aside0.mk (Kd.R_below HYD.out (drawn_below HD8.out))
        have hx8 := pw_cell_below (drawn_below HD8.out) HX1.out
        go_wp2_with (first
          | ((with_reducible refine gate_builtin (b := .append) (xs := #[.tmp 27, .tmp 32]) rfl ?_); at_builtin; refine Kd.R_append (Kd.int .i64) (w0 := w1) w1.heap.size rfl (.tmp 27) (.tmp 32) 24 3 (.int .i64 0) 8 rfl Try.underlying24 Reach.info3 rfl (by decide) (by omega) u3 (leftR no (ms.take i)) x [.int .i64 x] (fun _ => True) (fun _ => False) rfl rfl rfl (fun _ hk => hk.elim) ?aF HY8.out HB8.out ?aS ?aL ?_; (case aF => exact fun _ _ => trivial); (case aS => exact HB8.out.size); (case aL => have := HLN.out i; omega); intro v5 w5 ho5 hb5 hg5 hat5)
          | go_in)
        go_roundw
        case rel => exact ⟨_, i + 1, rfl, by first | rfl | (rw [hwi]; rfl), hlt, ⟨by rw [HSN.out]; exact ho5⟩, ⟨hb5⟩⟩
        case measure => exact meas_step_ hlt (by first | rfl | exact hwi)
    · have hil : i = ms.length := by omega
      have hq := eq_false (show ¬ (i : Int) < (ms.length : Int) by omega)
      subst hil
      rw [List.take_length] at HY
      obtain ⟨A, c, e⟩ := Kd.R_slice HY.out
      subst e
      have hrd := Kd.R_reads' HY.out
      have hl2 := HLN.out ms.length
      rw [List.take_length] at hl2
      have hbw : Below W.heap.size W wr := below_then HB1.out HB1.out.size HB.out
      have hcall := synodalref8_Quorum.calls 5000 Ao co o An cn n A c (leftR no ms) _ wr (Kd.C_below HR.out.2.2 hbw) HR.out.2.1 (Kd.C_below HS.out.2.2 hbw) HS.out.2.1 hrd.2.2 hrd.2.1 (quorum8_f o n (leftR no ms) (by have := HO.out; omega) (by have := HN.out; omega) (by omega) 5000 (by have := HO.out; have := HN.out; omega))
      have HCA := Aside0.mk hcall
      have HBW := Aside0.mk hbw
      clear hcall hrd hbw hl2
      go_wp2_with (first
        | (go_at_call 62; refine HCA.out.mono ?_; rintro e w4 ⟨rfl, hb4⟩)
        | go_in)
      go_ret
      exact ⟨rfl, below_then HBW.out HBW.out.size hb4⟩
end Go.Proofs.Ytbomomaidglegaa.Votes
