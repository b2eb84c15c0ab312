/- TallySplit: one half, one answer. -/
import Derived.Test.YtbomomaidglegaaVotes3
namespace Go.Proofs.Ytbomomaidglegaa.Votes
open Go Go.RowKit Go.Maps Go.Proofs.Ytbomomaidglegaa.XTally Go.Proofs.YtbomomaidglegaaW.PrintWords Go.Proofs.YtbomomaidglegaaW.PrintLast Go.Proofs.YtbomomaidglegaaW.PrintMore
set_option linter.unusedVariables false
set_option linter.unusedSimpArgs false

theorem row_cell {W : World} {B : Nat} {P : Nat → Prop} {ad : Addr} {c : Nat} {l : List Int} (h : Kd.R (Kd.int .i64) 3 W B P (.slice (some ad) l.length c) l) (i : Nat) (hi : i < l.length) : W.cell? (ad.add i) = some (.int .i64 l[i]) := by
  obtain ⟨ad', e, hx⟩ := Kd.at_int (Kd.R_reads' h).2.2 (i : Int) (by omega) (by omega)
  cases e
  rw [Int.toNat_natCast, show rd l (i : Int) = l[i] by unfold rd; simp [List.getD, hi]] at hx
  exact hx
theorem known_f : synodallaw9_known.f = some true := by
  unfold synodallaw9_known.f tally_Reach.f
  rw [if_pos (by decide)]
  rfl
def bitV (a x : Int) : Bool := decide (bits .and .i64 (shr .i64 a x) 1 = 1)

set_option maxHeartbeats 1000000 in
set_option maxRecDepth 100000 in
theorem TallySplit_walk (a0 a1 : Int) (w : World) (_w0 : (Lit.int .i64 a0).wf = true) (_w1 : (Lit.int .i64 a1).wf = true) :
    Calls Try.prog 6 #[.int .i64 a0, .int .i64 a1] w fun e w' => e = .returned (.bool true) ∧ Below w.heap.size w w' := by
  have hu26 := Try.underlying26
  obtain ⟨r, hpl, hr1, hr7, hrs⟩ := CP.plain_f a0
  have HPL := Aside0.mk (hpl 20 (Nat.le_refl _))
  have HND := Aside0.mk (CP.rises_nodup _ _ hrs)
  have HIN := Aside0.mk (CP.rises_mem _ _ hrs)
  have HRL := Aside0.mk (show r.length ≤ 1000 by omega)
  have HR1 := Aside0.mk hr1
  have HR7 := Aside0.mk hr7
  clear _w0 _w1 hpl hr1 hr7 hrs
  go_enter Try.func6, Try.ntmps6
  go_upto_region 4 with (first
    | (go_at_call 15; refine (synodallaw9_known.calls true _ known_f).mono ?_; rintro e_ w1 ⟨rfl, hb1⟩; have HB1 := Aside0.mk hb1; clear hb1)
    | (go_at_call 18; refine (synodallaw8_Plain.calls 20 a0 [] r _ HPL.out).mono ?_; rintro e_ w3 ⟨v0_, v1_, rfl, hr0_, hr1_, hb_⟩; have HB3 := Aside0.mk hb_; have HRA := Aside0.mk hr0_; have HRB := Aside0.mk hr1_; obtain ⟨Aa, ca, e0_⟩ := Kd.R_slice hr0_; obtain ⟨Ab, cb, e1_⟩ := Kd.R_slice hr1_; subst e0_; subst e1_; clear hr0_ hr1_ hb_))
  generalize hw4 : World.alloc w3 _ = w4
  have hb4 : Below w3.heap.size w3 w4 := by rw [← hw4]; exact below_alloc (Below.refl _ _) _
  have hx4 : w4.heap[w3.heap.size]? = some (.cells #[.slice Aa ([] : List Int).length ca, .slice Ab r.length cb] 26 (0, 0)) := by rw [← hw4]; exact heap_alloc_new _ _
  obtain ⟨gc, hgc⟩ : ∃ q, w3.heap.size = q := ⟨_, rfl⟩
  rw [hgc] at hx4 ⊢
  have hc0 := blk_cell hx4 0
  have hc1 := blk_cell hx4 1
  have BC4 := Aside0.mk hx4
  have HB4 := Aside0.mk hb4
  clear hw4 hb4 hx4
  go_upto_region 5 with (first
    | (go_at_call 21; refine (new_calls _ Aa ca [] Ab cb r (Kd.C_below (Kd.R_reads' HRA.out).2.2 HB4.out) (Kd.R_reads' HRA.out).2.1 (Kd.C_below (Kd.R_reads' HRB.out).2.2 HB4.out) (Kd.R_reads' HRB.out).2.1 (by simp) HRL.out).mono ?_; rintro e_ w5 ⟨gv, gm, rfl, hv_, hb_⟩; have HV5 := Aside0.mk hv_; have HB5 := Aside0.mk hb_; clear hv_ hb_))
  have hz1 := HB1.out.size
  have hz3 := HB3.out.size
  have hz4 := HB4.out.size
  have hz5 := HB5.out.size
  have hgm : w4.heap.size ≤ gm := by obtain ⟨_, _, _, _, _, _, _, _, _, h⟩ := HV5.out; exact h
  have hcl := blk_lt BC4.out
  have HGM := Aside0.mk (show w.heap.size ≤ gm ∧ gc ≠ gm from ⟨by omega, by omega⟩)
  have HRX := Aside0.mk (show Kd.R (Kd.int .i64) 3 w5 w.heap.size (fun k => k ≠ gm) (.slice Ab r.length cb) r from
    Kd.R_mono (Kd.R_below (Kd.R_below (Kd.R_lower (Kd.R_bound HRB.out) hz1) HB4.out) HB5.out) (fun q hq => by have h2 := hq.2.2.1; omega))
  have BC5 := Aside0.mk (blk_below BC4.out HB5.out)
  have HBW := Aside0.mk (show Below w.heap.size w w5 from below_then (below_then (below_then HB1.out HB1.out.size HB3.out) (by omega) (HB4.out)) (by omega) HB5.out)
  have HVW : Aside0 (IsV w.heap.size w5 gv gm [] r []) := ⟨by
    obtain ⟨x1, x2, x3, x4, y1, y2, y3, y4, y5, y6⟩ := HV5.out
    exact ⟨x1, x2, x3, x4, y1, Kd.R_lower y2 (by omega), Kd.R_lower y3 (by omega), y4, by omega, by omega⟩⟩
  clear hz1 hz3 hz4 hz5 hgm hcl hc0 hc1 HB1 HB3 HB4 HB5 HRA HRB BC4 HV5 hgc
  go_wp2
  go_loopw [7, 8] (fun v7 v8 wr => ∃ i : Nat, v8 = .int .i64 (i : Int) ∧ i ≤ r.length ∧ v7 = .int .i64 ((r.take i).countP (bitV a1) : Int) ∧ Aside0 (IsV w.heap.size wr gv gm [] r (allV (bitV a1) (r.take i))) ∧
      Aside0 (Kd.R (Kd.int .i64) 3 wr w.heap.size (fun k => k ≠ gm) (.slice Ab r.length cb) r) ∧ Aside0 (wr.heap[gc]? = some (.cells #[.slice Aa ([] : List Int).length ca, .slice Ab r.length cb] 26 (0, 0))) ∧ Aside0 (Below w.heap.size w wr))
    (fun _ v8 _ => r.length - (intOf v8).toNat)
  case atStart => exact ⟨0, rfl, Nat.zero_le _, rfl, HVW, HRX, BC5, HBW⟩
  case round =>
    obtain ⟨i, rfl, hi, rfl, HV, HR, BC, HB⟩ := hrel
    clear HVW HRX BC5 HBW
    have hwi : wrap64 ((i : Int) + 1) = (i : Int) + 1 := by have := HRL.out; unfold wrap64; omega
    have hc1 : wr.cell? ⟨gc, 1, none⟩ = some (.slice Ab r.length cb) := (blk_cell BC.out 1).trans rfl
    have hcl : (r.take i).countP (bitV a1) ≤ i := by have h1 := List.countP_le_length (p := bitV a1) (l := r.take i); rw [List.length_take] at h1; omega
    have HRC := Aside0.mk (Kd.R_reads' HR.out)
    by_cases hlt : i < r.length
    · obtain ⟨x, hx⟩ : ∃ x, r[i] = x := ⟨_, rfl⟩
      have hxm : x ∈ r := by rw [← hx]; exact List.getElem_mem hlt
      have hx9 := HIN.out x hxm
      have hx0 : 0 ≤ x := by omega
      have HWX := Aside0.mk (wf_small x hx9.1 hx9.2)
      have htk : r.take (i + 1) = r.take i ++ [x] := by rw [List.take_succ_eq_append_getElem hlt, hx]
      have HAK := Aside0.mk (show addOk [] r (allV (bitV a1) (r.take i)) x = true by rw [← hx]; exact addOk_new _ r i hlt HND.out)
      have HAN := Aside0.mk (show addOk [] r (allV (bitV a1) (r.take (i + 1))) x = false from addOk_old _ _ _ _ _ (by rw [htk]; simp))
      have HVT := Aside0.mk (show allV (bitV a1) (r.take (i + 1)) = allV (bitV a1) (r.take i) ++ [(x, bitV a1 x)] by rw [htk, allV_snoc])
      have HCT := Aside0.mk (show (r.take (i + 1)).countP (bitV a1) = (r.take i).countP (bitV a1) + (if bitV a1 x = true then 1 else 0) by rw [htk, count_snoc])
      obtain ⟨ad, e2, hx1⟩ := Kd.at_int HRC.out.2.2 (i : Int) (by omega) (by omega)
      subst e2
      rw [Int.toNat_natCast, show rd r (i : Int) = x by unfold rd; simp [List.getD, hlt, hx]] at hx1
      have HL1 := Aside0.mk (show (allV (bitV a1) (r.take i)).length ≤ 1000 by have h1 := HRL.out; unfold allV; rw [List.length_map, List.length_take]; omega)
      have HL2 := Aside0.mk (show (allV (bitV a1) (r.take (i + 1))).length ≤ 1000 by have h1 := HRL.out; unfold allV; rw [List.length_map, List.length_take]; omega)
      have hq := eq_true (show (i : Int) < (r.length : Int) by omega)
      have hq0 := eq_true (show 0 ≤ (i : Int) by omega)
      have hqx := eq_true hx0
      have HX1 := Aside0.mk hx1
      have HXI := Aside0.mk hx
      clear htk hxm hx9 hx
      obtain ⟨ji, hji⟩ : ∃ j_ : Int, shr .i64 a1 x = j_ := ⟨_, rfl⟩
      have hbd : bitV a1 x = decide (bits .and .i64 ji 1 = 1) := by unfold bitV; rw [hji]
      have hji_ : a1 / 2 ^ min x.toNat 64 = ji := hji
      have hjiz : x ≤ 64 → a1 / 2 ^ x.toNat = ji := shr_small hji
      have hxb : decide (0 ≤ x) = true := decide_eq_true hx0
      clear hx0 hji
      by_cases hbit : bits .and .i64 ji 1 = 1
      · have hbv : bitV a1 x = true := by rw [hbd]; exact decide_eq_true hbit
        have hbb0 : (bits .and .i64 ji 1 == 1) = true := beq_iff_eq.mpr hbit
        have HBV := Aside0.mk hbv
        clear hbd hbit
        have hwn : wrap64 (((r.take i).countP (bitV a1) : Int) + 1) = ((r.take i).countP (bitV a1) : Int) + 1 := by have := HRL.out; unfold wrap64; omega
        have hadd := add_calls HV.out (by simp) HRL.out HL1.out x true HWX.out
        unfold AddPost at hadd
        rw [HAK.out, show addTo [] r (allV (bitV a1) (r.take i)) x true = allV (bitV a1) (r.take (i + 1)) by unfold addTo; rw [if_pos HAK.out, HVT.out, hbv]] at hadd
        have HA1 := Aside0.mk hadd
        have HA2 := Aside0.mk (show ∀ w6, IsV w.heap.size w6 gv gm [] r (allV (bitV a1) (r.take (i + 1))) → Calls Try.prog 22 #[.pointer (some ⟨gv, 0, none⟩), .int .i64 x, .bool false] w6 fun e w' => e = .returned (.bool false) ∧ Kept (fun k => k = gm) w6 w' ∧ IsV w.heap.size w' gv gm [] r (allV (bitV a1) (r.take (i + 1))) from fun w6 h6 => by
          have h := add_calls h6 (by simp) HRL.out HL2.out x false HWX.out
          unfold AddPost at h
          rw [HAN.out, show addTo [] r (allV (bitV a1) (r.take (i + 1))) x false = allV (bitV a1) (r.take (i + 1)) by unfold addTo; rw [if_neg (by rw [HAN.out]; simp)]] at h
          exact h)
        clear hadd hbv
        go_wp2_with (first
          | (go_at_call 22; refine (HA2.out _ HV6.out).mono ?_; rintro e_ w7 ⟨rfl, hk7, hv7⟩; have HK7 := Aside0.mk hk7; have HV7 := Aside0.mk hv7; clear hk7 hv7)
          | (go_at_call 22; refine HA1.out.mono ?_; rintro e_ w6 ⟨rfl, hk6, hv6⟩; have HK6 := Aside0.mk hk6; have HV6 := Aside0.mk hv6; have hc6 : w6.cell? ⟨gc, 1, none⟩ = some (.slice (some ad) r.length cb) := (blk_cell (blk_kept hk6 BC.out HGM.out.2) 1).trans rfl; have hy6 : w6.cell? (ad.add i) = some (.int .i64 x) := (row_cell (R_kept_ HR.out hk6 (fun k h he => h he)) i hlt).trans (by rw [HXI.out]); clear hk6 hv6)
          | go_in)
        go_roundw
        case rel =>
          have HKK := Aside0.mk (HK6.out.trans (F' := fun k => k = gm) (fun _ h => .inl h) HK7.out)
          exact ⟨i + 1, by first | rfl | (rw [hwi]; rfl), hlt, by first | (rw [HCT.out, if_pos (by simp [HBV.out])]; first | rfl | (rw [hwn]; rfl)), HV7, ⟨R_kept_ HR.out HKK.out (fun k h he => h he)⟩, ⟨blk_kept HKK.out BC.out HGM.out.2⟩, ⟨below_kept HB.out HB.out.size (fun k hk => by subst hk; exact HGM.out.1) HKK.out⟩⟩
        case measure => exact meas_step_ hlt (by first | rfl | exact hwi)
      · have hbv : bitV a1 x = false := by rw [hbd]; exact decide_eq_false hbit
        have hbb0 : (bits .and .i64 ji 1 == 1) = false := beq_eq_false_iff_ne.mpr hbit
        have HBV := Aside0.mk hbv
        clear hbd hbit
        have hadd := add_calls HV.out (by simp) HRL.out HL1.out x false HWX.out
        unfold AddPost at hadd
        rw [HAK.out, show addTo [] r (allV (bitV a1) (r.take i)) x false = allV (bitV a1) (r.take (i + 1)) by unfold addTo; rw [if_pos HAK.out, HVT.out, hbv]] at hadd
        have HA1 := Aside0.mk hadd
        have HA2 := Aside0.mk (show ∀ w6, IsV w.heap.size w6 gv gm [] r (allV (bitV a1) (r.take (i + 1))) → Calls Try.prog 22 #[.pointer (some ⟨gv, 0, none⟩), .int .i64 x, .bool true] w6 fun e w' => e = .returned (.bool false) ∧ Kept (fun k => k = gm) w6 w' ∧ IsV w.heap.size w' gv gm [] r (allV (bitV a1) (r.take (i + 1))) from fun w6 h6 => by
          have h := add_calls h6 (by simp) HRL.out HL2.out x true HWX.out
          unfold AddPost at h
          rw [HAN.out, show addTo [] r (allV (bitV a1) (r.take (i + 1))) x true = allV (bitV a1) (r.take (i + 1)) by unfold addTo; rw [if_neg (by rw [HAN.out]; simp)]] at h
          exact h)
        clear hadd hbv
        go_wp2_with (first
          | (go_at_call 22; refine (HA2.out _ HV6.out).mono ?_; rintro e_ w7 ⟨rfl, hk7, hv7⟩; have HK7 := Aside0.mk hk7; have HV7 := Aside0.mk hv7; clear hk7 hv7)
          | (go_at_call 22; refine HA1.out.mono ?_; rintro e_ w6 ⟨rfl, hk6, hv6⟩; have HK6 := Aside0.mk hk6; have HV6 := Aside0.mk hv6; have hc6 : w6.cell? ⟨gc, 1, none⟩ = some (.slice (some ad) r.length cb) := (blk_cell (blk_kept hk6 BC.out HGM.out.2) 1).trans rfl; have hy6 : w6.cell? (ad.add i) = some (.int .i64 x) := (row_cell (R_kept_ HR.out hk6 (fun k h he => h he)) i hlt).trans (by rw [HXI.out]); clear hk6 hv6)
          | go_in)
        go_roundw
        case rel =>
          have HKK := Aside0.mk (HK6.out.trans (F' := fun k => k = gm) (fun _ h => .inl h) HK7.out)
          exact ⟨i + 1, by first | rfl | (rw [hwi]; rfl), hlt, by first | (rw [HCT.out, if_neg (by simp [HBV.out])]; first | rfl | (rw [hwn]; rfl)), HV7, ⟨R_kept_ HR.out HKK.out (fun k h he => h he)⟩, ⟨blk_kept HKK.out BC.out HGM.out.2⟩, ⟨below_kept HB.out HB.out.size (fun k hk => by subst hk; exact HGM.out.1) HKK.out⟩⟩
        case measure => exact meas_step_ hlt (by first | rfl | exact hwi)
    · have hq := eq_false (show ¬ (i : Int) < (r.length : Int) by omega)
      have hil : i = r.length := by omega
      subst hil
      rw [List.take_length] at HV hcl ⊢
      go_upto_region 14 with (fail)
      obtain ⟨cn_, hcn⟩ : ∃ c, r.countP (bitV a1) = c := ⟨_, rfl⟩
      have HS14 := Aside0.mk (show wr.drew.cell? ⟨gc, 1, none⟩ = some (.slice Ab r.length cb) from hc1)
      have HVD := Aside0.mk (HV.out.below (below_drew (Below.refl wr.heap.size wr)))
      have HBD := Aside0.mk (below_drew HB.out)
      have HVL := Aside0.mk (show (allV (bitV a1) r).length ≤ 1000 by have h1 := HRL.out; unfold allV; rw [List.length_map]; exact h1)
      have HMW := Aside0.mk (show ∀ x ∈ Mem.members [] r, (Lit.int .i64 x).wf = true from fun x hx => by
        rcases of_members _ _ _ hx with h | h
        · cases h
        · have h2 := HIN.out x h; exact wf_small x h2.1 h2.2)
      have HQ9 := Aside0.mk (show addOk [] r (allV (bitV a1) r) 9 = false from addOk_out _ _ _ _ (by simp) (fun h => by have h2 := HIN.out 9 h; omega))
      have hqw := quorum_all (bitV a1) r _ (yes_all (bitV a1) r)
      have hql := quorum_all (bitV a1) r _ (lost_all (bitV a1) r)
      rw [hcn] at hcl hqw hql ⊢
      have hw2 : wrap64 (2 * (cn_ : Int)) = 2 * (cn_ : Int) := by have := HRL.out; unfold wrap64; omega
      clear HV hcn
      by_cases hbig : 2 * (cn_ : Int) > (r.length : Int)
      · skip
        have HQW := Aside0.mk (show CP.quorum [] r (yesV (allV (bitV a1) r)) = true by rw [hqw]; simp; omega)
        have HQL := Aside0.mk (show (!CP.quorum [] r (lostL (allV (bitV a1) r) (Mem.members [] r))) = false by rw [hql]; simp; omega)
        have hq1 : decide (wrap64 (2 * (cn_ : Int)) > (r.length : Int)) = true := by rw [hw2]; simp; omega
        have hq2 : decide (wrap64 (2 * (cn_ : Int)) ≤ (r.length : Int)) = false := by rw [hw2]; simp; omega
        rw [hw2] at hq1 hq2
        clear hqw hql
        refine start_ (n := 26) (S := fun w' => w'.cell? ⟨gc, 1, none⟩ = some (Value.slice Ab r.length cb)) (ds := [22]) #[false, false, false, false, false, false, false, false, false, false, false, false, false, false, false, false, false, false, false, false, false, false, false, false, false, false] (by kernel_rfl) rfl rfl (HS14.out) (fun hHeld => ?_)
        generalize wr.drew = wd at HS14 HVD HBD hHeld ⊢
        have HV := HVD
        refine pure_ (i := 0) (N := some 55) (v := ?_) (a' := ?_) #[true, false, false, false, false, false, false, false, false, false, false, false, false, false, false, false, false, false, false, false, false, false, false, false, false, false] rfl rfl (by kernel_rfl) (fun _ _ _ h => h) (Or.inl ⟨by rfl, ?_⟩) ?_ ?_
        rotate_left
        · intro w'
          go_simp
          with_reducible rfl
        rotate_left
        · simp only [Act.put, List.setIfInBounds_toArray, List.set_cons_zero, List.set_cons_succ, i64_w, i32_w]
          rfl
        refine pure_ (i := 2) (N := some 57) (v := ?_) (a' := ?_) #[true, false, true, false, false, false, false, false, false, false, false, false, false, false, false, false, false, false, false, false, false, false, false, false, false, false] rfl rfl (by kernel_rfl) (fun _ _ _ h => h) (Or.inl ⟨by rfl, ?_⟩) ?_ ?_
        rotate_left
        · intro w'
          go_simp
          with_reducible rfl
        rotate_left
        · simp only [Act.put, List.setIfInBounds_toArray, List.set_cons_zero, List.set_cons_succ, i64_w, i32_w]
          rfl
        refine pure_ (i := 3) (N := some 58) (v := ?_) (a' := ?_) #[true, false, true, true, false, false, false, false, false, false, false, false, false, false, false, false, false, false, false, false, false, false, false, false, false, false] rfl rfl (by kernel_rfl) (fun _ _ _ h => h) (Or.inl ⟨by rfl, ?_⟩) ?_ ?_
        rotate_left
        · intro w'
          go_simp
          with_reducible rfl
        rotate_left
        · simp only [Act.put, List.setIfInBounds_toArray, List.set_cons_zero, List.set_cons_succ, i64_w, i32_w]
          rfl
        refine pure_ (i := 4) (N := some 59) (v := ?_) (a' := ?_) #[true, false, true, true, true, false, false, false, false, false, false, false, false, false, false, false, false, false, false, false, false, false, false, false, false, false] rfl rfl (by kernel_rfl) (fun _ _ _ h => h) (Or.inl ⟨by rfl, ?_⟩) ?_ ?_
        rotate_left
        · intro w'
          go_simp
          with_reducible rfl
        rotate_left
        · simp only [Act.put, List.setIfInBounds_toArray, List.set_cons_zero, List.set_cons_succ, i64_w, i32_w]
          rfl
        refine take_ (i := 5) (N := some 60) (v := ?_) (a' := ?_) #[true, false, true, true, true, true, false, false, false, false, false, false, false, false, false, false, false, false, false, false, false, false, false, false, false, false] rfl rfl (by kernel_rfl) (fun _ _ _ h => h) (Or.inl ⟨by rfl, ?_⟩) hHeld ?_ ?_
        rotate_left
        · intro w' s0
          go_simp
          with_reducible rfl
        rotate_left
        · simp only [Act.put, List.setIfInBounds_toArray, List.set_cons_zero, List.set_cons_succ, i64_w, i32_w]
          rfl
        refine pure_ (i := 6) (N := some 61) (v := ?_) (a' := ?_) #[true, false, true, true, true, true, true, false, false, false, false, false, false, false, false, false, false, false, false, false, false, false, false, false, false, false] rfl rfl (by kernel_rfl) (fun _ _ _ h => h) (Or.inl ⟨by rfl, ?_⟩) ?_ ?_
        rotate_left
        · intro w'
          go_simp
          with_reducible rfl
        rotate_left
        · simp only [Act.put, List.setIfInBounds_toArray, List.set_cons_zero, List.set_cons_succ, i64_w, i32_w]
          rfl
        refine pure_ (i := 7) (N := some 62) (v := ?_) (a' := ?_) #[true, false, true, true, true, true, true, true, false, false, false, false, false, false, false, false, false, false, false, false, false, false, false, false, false, false] rfl rfl (by kernel_rfl) (fun _ _ _ h => h) (Or.inl ⟨by rfl, ?_⟩) ?_ ?_
        rotate_left
        · intro w'
          go_simp
          with_reducible rfl
        rotate_left
        · simp only [Act.put, List.setIfInBounds_toArray, List.set_cons_zero, List.set_cons_succ, i64_w, i32_w]
          rfl
        refine one_ (i := 1) (N := some 56) #[true, true, true, true, true, true, true, true, false, false, false, false, false, false, false, false, false, false, false, false, false, false, false, false, false, false] rfl rfl (by kernel_rfl) (by decide) (fun K hK => ?_)
        have hw_ := won_calls HV.out (by simp) HRL.out HVL.out
        rw [HQW.out] at hw_
        refine goes_ Try.func24 (by kernel_rfl) rfl #[.pointer (some ⟨gv, 0, none⟩)] (by rfl) rfl rfl (by simp only [List.map_toArray, List.map_cons, List.map_nil]; rfl) ?_
        with_reducible refine (hw_).mono ?_
        rintro e_ x1 ⟨rfl, hb1⟩
        refine ⟨_, rfl, ?_⟩
        have HB1 := Aside0.mk hb1
        clear hw_ hb1
        refine hK.out _ _ (pw_cell_below HB1.out hHeld) (fun hHeld => ?_)
        clear hK K
        refine norm_ (a' := ?_) ?_ ?_
        rotate_left
        · show Act.put _ (some 56) _ = _
          simp only [Act.put, List.setIfInBounds_toArray, List.set_cons_zero, List.set_cons_succ, i64_w, i32_w]
          rfl
        refine pure_ (i := 8) (N := some 63) (v := ?_) (a' := ?_) #[true, true, true, true, true, true, true, true, true, false, false, false, false, false, false, false, false, false, false, false, false, false, false, false, false, false] rfl rfl (by kernel_rfl) (fun _ _ _ h => h) (Or.inl ⟨by rfl, ?_⟩) ?_ ?_
        rotate_left
        · intro w'
          go_simp
          with_reducible rfl
        rotate_left
        · simp only [Act.put, List.setIfInBounds_toArray, List.set_cons_zero, List.set_cons_succ, i64_w, i32_w]
          rfl
        refine pure_ (i := 9) (N := some 64) (v := ?_) (a' := ?_) #[true, true, true, true, true, true, true, true, true, true, false, false, false, false, false, false, false, false, false, false, false, false, false, false, false, false] rfl rfl (by kernel_rfl) (fun _ _ _ h => h) (Or.inl ⟨by rfl, ?_⟩) ?_ ?_
        rotate_left
        · intro w'
          go_simp
          with_reducible rfl
        rotate_left
        · simp only [Act.put, List.setIfInBounds_toArray, List.set_cons_zero, List.set_cons_succ, i64_w, i32_w]
          rfl
        refine pure_ (i := 10) (N := some 65) (v := ?_) (a' := ?_) #[true, true, true, true, true, true, true, true, true, true, true, false, false, false, false, false, false, false, false, false, false, false, false, false, false, false] rfl rfl (by kernel_rfl) (fun _ _ _ h => h) (Or.inl ⟨by rfl, ?_⟩) ?_ ?_
        rotate_left
        · intro w'
          go_simp
          with_reducible rfl
        rotate_left
        · simp only [Act.put, List.setIfInBounds_toArray, List.set_cons_zero, List.set_cons_succ, i64_w, i32_w]
          rfl
        refine pure_ (i := 12) (N := some 67) (v := ?_) (a' := ?_) #[true, true, true, true, true, true, true, true, true, true, true, false, true, false, false, false, false, false, false, false, false, false, false, false, false, false] rfl rfl (by kernel_rfl) (fun _ _ _ h => h) (Or.inl ⟨by rfl, ?_⟩) ?_ ?_
        rotate_left
        · intro w'
          go_simp
          with_reducible rfl
        rotate_left
        · simp only [Act.put, List.setIfInBounds_toArray, List.set_cons_zero, List.set_cons_succ, i64_w, i32_w]
          rfl
        refine pure_ (i := 13) (N := some 68) (v := ?_) (a' := ?_) #[true, true, true, true, true, true, true, true, true, true, true, false, true, true, false, false, false, false, false, false, false, false, false, false, false, false] rfl rfl (by kernel_rfl) (fun _ _ _ h => h) (Or.inl ⟨by rfl, ?_⟩) ?_ ?_
        rotate_left
        · intro w'
          go_simp
          with_reducible rfl
        rotate_left
        · simp only [Act.put, List.setIfInBounds_toArray, List.set_cons_zero, List.set_cons_succ, i64_w, i32_w]
          rfl
        refine pure_ (i := 14) (N := some 69) (v := ?_) (a' := ?_) #[true, true, true, true, true, true, true, true, true, true, true, false, true, true, true, false, false, false, false, false, false, false, false, false, false, false] rfl rfl (by kernel_rfl) (fun _ _ _ h => h) (Or.inl ⟨by rfl, ?_⟩) ?_ ?_
        rotate_left
        · intro w'
          go_simp
          with_reducible rfl
        rotate_left
        · simp only [Act.put, List.setIfInBounds_toArray, List.set_cons_zero, List.set_cons_succ, i64_w, i32_w]
          rfl
        refine take_ (i := 15) (N := some 70) (v := ?_) (a' := ?_) #[true, true, true, true, true, true, true, true, true, true, true, false, true, true, true, true, false, false, false, false, false, false, false, false, false, false] rfl rfl (by kernel_rfl) (fun _ _ _ h => h) (Or.inl ⟨by rfl, ?_⟩) hHeld ?_ ?_
        rotate_left
        · intro w' s0
          go_simp
          with_reducible rfl
        rotate_left
        · simp only [Act.put, List.setIfInBounds_toArray, List.set_cons_zero, List.set_cons_succ, i64_w, i32_w]
          rfl
        refine pure_ (i := 16) (N := some 71) (v := ?_) (a' := ?_) #[true, true, true, true, true, true, true, true, true, true, true, false, true, true, true, true, true, false, false, false, false, false, false, false, false, false] rfl rfl (by kernel_rfl) (fun _ _ _ h => h) (Or.inl ⟨by rfl, ?_⟩) ?_ ?_
        rotate_left
        · intro w'
          go_simp
          with_reducible rfl
        rotate_left
        · simp only [Act.put, List.setIfInBounds_toArray, List.set_cons_zero, List.set_cons_succ, i64_w, i32_w]
          rfl
        refine pure_ (i := 17) (N := some 72) (v := ?_) (a' := ?_) #[true, true, true, true, true, true, true, true, true, true, true, false, true, true, true, true, true, true, false, false, false, false, false, false, false, false] rfl rfl (by kernel_rfl) (fun _ _ _ h => h) (Or.inl ⟨by rfl, ?_⟩) ?_ ?_
        rotate_left
        · intro w'
          go_simp
          with_reducible rfl
        rotate_left
        · simp only [Act.put, List.setIfInBounds_toArray, List.set_cons_zero, List.set_cons_succ, i64_w, i32_w]
          rfl
        refine one_ (i := 11) (N := some 66) #[true, true, true, true, true, true, true, true, true, true, true, true, true, true, true, true, true, true, false, false, false, false, false, false, false, false] rfl rfl (by kernel_rfl) (by decide) (fun K hK => ?_)
        have hl_ := lost_calls (HV.out.below HB1.out) (by simp) HRL.out HR1.out HMW.out
        rw [HQL.out] at hl_
        refine goes_ Try.func26 (by kernel_rfl) rfl #[.pointer (some ⟨gv, 0, none⟩)] (by rfl) rfl rfl (by simp only [List.map_toArray, List.map_cons, List.map_nil]; rfl) ?_
        with_reducible refine (hl_).mono ?_
        rintro e_ x11 ⟨rfl, hb11⟩
        refine ⟨_, rfl, ?_⟩
        have HB11 := Aside0.mk hb11
        clear hl_ hb11
        refine hK.out _ _ (pw_cell_below HB11.out hHeld) (fun hHeld => ?_)
        clear hK K
        refine norm_ (a' := ?_) ?_ ?_
        rotate_left
        · show Act.put _ (some 66) _ = _
          simp only [Act.put, List.setIfInBounds_toArray, List.set_cons_zero, List.set_cons_succ, i64_w, i32_w]
          rfl
        refine pure_ (i := 18) (N := some 73) (v := ?_) (a' := ?_) #[true, true, true, true, true, true, true, true, true, true, true, true, true, true, true, true, true, true, true, false, false, false, false, false, false, false] rfl rfl (by kernel_rfl) (fun _ _ _ h => h) (Or.inl ⟨by rfl, ?_⟩) ?_ ?_
        rotate_left
        · intro w'
          go_simp
          with_reducible rfl
        rotate_left
        · simp only [Act.put, List.setIfInBounds_toArray, List.set_cons_zero, List.set_cons_succ, i64_w, i32_w]
          rfl
        refine pure_ (i := 19) (N := some 74) (v := ?_) (a' := ?_) #[true, true, true, true, true, true, true, true, true, true, true, true, true, true, true, true, true, true, true, true, false, false, false, false, false, false] rfl rfl (by kernel_rfl) (fun _ _ _ h => h) (Or.inl ⟨by rfl, ?_⟩) ?_ ?_
        rotate_left
        · intro w'
          go_simp
          with_reducible rfl
        rotate_left
        · simp only [Act.put, List.setIfInBounds_toArray, List.set_cons_zero, List.set_cons_succ, i64_w, i32_w]
          rfl
        refine pure_ (i := 20) (N := some 75) (v := ?_) (a' := ?_) #[true, true, true, true, true, true, true, true, true, true, true, true, true, true, true, true, true, true, true, true, true, false, false, false, false, false] rfl rfl (by kernel_rfl) (fun _ _ _ h => h) (Or.inl ⟨by rfl, ?_⟩) ?_ ?_
        rotate_left
        · intro w'
          go_simp
          with_reducible rfl
        rotate_left
        · simp only [Act.put, List.setIfInBounds_toArray, List.set_cons_zero, List.set_cons_succ, i64_w, i32_w]
          rfl
        refine pure_ (i := 21) (N := some 76) (v := ?_) (a' := ?_) #[true, true, true, true, true, true, true, true, true, true, true, true, true, true, true, true, true, true, true, true, true, true, false, false, false, false] rfl rfl (by kernel_rfl) (fun _ _ _ h => h) (Or.inl ⟨by rfl, ?_⟩) ?_ ?_
        rotate_left
        · intro w'
          go_simp
          with_reducible rfl
        rotate_left
        · simp only [Act.put, List.setIfInBounds_toArray, List.set_cons_zero, List.set_cons_succ, i64_w, i32_w]
          rfl
        refine last_ (i := 22) (N := some 77) #[true, true, true, true, true, true, true, true, true, true, true, true, true, true, true, true, true, true, true, true, true, true, true, false, false, false] rfl rfl (by kernel_rfl) (by decide) (fun K hK => ?_)
        have ha_ := add_calls ((HV.out.below HB1.out).below HB11.out) (by simp) HRL.out HVL.out 9 true (by decide)
        unfold AddPost at ha_
        rw [HQ9.out] at ha_
        refine goes_ Try.func22 (by kernel_rfl) rfl #[.pointer (some ⟨gv, 0, none⟩), .int .i64 9, .bool true] (by rfl) rfl rfl (by simp only [List.map_toArray, List.map_cons, List.map_nil]; rfl) ?_
        with_reducible refine (ha_).mono ?_
        rintro e_ x22 ⟨rfl, hk22, hv22⟩
        refine ⟨_, rfl, ?_⟩
        have HK22 := Aside0.mk hk22
        clear ha_ hk22 hv22
        refine hK.out _ _ ?_
        clear hK K
        refine norm_ (a' := ?_) ?_ ?_
        rotate_left
        · show Act.put _ (some 77) _ = _
          simp only [Act.put, List.setIfInBounds_toArray, List.set_cons_zero, List.set_cons_succ, i64_w, i32_w]
          rfl
        refine pure_ (i := 23) (N := some 78) (v := ?_) (a' := ?_) #[true, true, true, true, true, true, true, true, true, true, true, true, true, true, true, true, true, true, true, true, true, true, true, true, false, false] rfl rfl (by kernel_rfl) (fun _ _ _ h => h) (Or.inl ⟨by rfl, ?_⟩) ?_ ?_
        rotate_left
        · intro w'
          go_simp
          with_reducible rfl
        rotate_left
        · simp only [Act.put, List.setIfInBounds_toArray, List.set_cons_zero, List.set_cons_succ, i64_w, i32_w]
          rfl
        refine pure_ (i := 24) (N := some 79) (v := ?_) (a' := ?_) #[true, true, true, true, true, true, true, true, true, true, true, true, true, true, true, true, true, true, true, true, true, true, true, true, true, false] rfl rfl (by kernel_rfl) (fun _ _ _ h => h) (Or.inl ⟨by rfl, ?_⟩) ?_ ?_
        rotate_left
        · intro w'
          go_simp
          with_reducible rfl
        rotate_left
        · simp only [Act.put, List.setIfInBounds_toArray, List.set_cons_zero, List.set_cons_succ, i64_w, i32_w]
          rfl
        refine pure_ (i := 25) (N := some 4) (v := ?_) (a' := ?_) #[true, true, true, true, true, true, true, true, true, true, true, true, true, true, true, true, true, true, true, true, true, true, true, true, true, true] rfl rfl (by kernel_rfl) (fun _ _ _ h => h) (Or.inl ⟨by rfl, ?_⟩) ?_ ?_
        rotate_left
        · intro w'
          go_simp
          with_reducible rfl
        rotate_left
        · simp only [Act.put, List.setIfInBounds_toArray, List.set_cons_zero, List.set_cons_succ, i64_w, i32_w]
          rfl
        refine done_ (by kernel_rfl) ?_
        go_wp2
        go_ret
        exact ⟨rfl, below_kept (below_then (below_then HBD.out HBD.out.size HB1.out) (Nat.le_trans HBD.out.size HB1.out.size) HB11.out) (Nat.le_trans HBD.out.size (Nat.le_trans HB1.out.size HB11.out.size)) (fun k hk => by subst hk; exact HGM.out.1) HK22.out⟩
      · skip
        have HQW := Aside0.mk (show CP.quorum [] r (yesV (allV (bitV a1) r)) = false by rw [hqw]; simp; omega)
        have HQL := Aside0.mk (show (!CP.quorum [] r (lostL (allV (bitV a1) r) (Mem.members [] r))) = true by rw [hql]; simp; omega)
        have hq1 : decide (wrap64 (2 * (cn_ : Int)) > (r.length : Int)) = false := by rw [hw2]; simp; omega
        have hq2 : decide (wrap64 (2 * (cn_ : Int)) ≤ (r.length : Int)) = true := by rw [hw2]; simp; omega
        rw [hw2] at hq1 hq2
        clear hqw hql
        refine start_ (n := 26) (S := fun w' => w'.cell? ⟨gc, 1, none⟩ = some (Value.slice Ab r.length cb)) (ds := [22]) #[false, false, false, false, false, false, false, false, false, false, false, false, false, false, false, false, false, false, false, false, false, false, false, false, false, false] (by kernel_rfl) rfl rfl (HS14.out) (fun hHeld => ?_)
        generalize wr.drew = wd at HS14 HVD HBD hHeld ⊢
        have HV := HVD
        refine pure_ (i := 0) (N := some 55) (v := ?_) (a' := ?_) #[true, false, false, false, false, false, false, false, false, false, false, false, false, false, false, false, false, false, false, false, false, false, false, false, false, false] rfl rfl (by kernel_rfl) (fun _ _ _ h => h) (Or.inl ⟨by rfl, ?_⟩) ?_ ?_
        rotate_left
        · intro w'
          go_simp
          with_reducible rfl
        rotate_left
        · simp only [Act.put, List.setIfInBounds_toArray, List.set_cons_zero, List.set_cons_succ, i64_w, i32_w]
          rfl
        refine pure_ (i := 2) (N := some 57) (v := ?_) (a' := ?_) #[true, false, true, false, false, false, false, false, false, false, false, false, false, false, false, false, false, false, false, false, false, false, false, false, false, false] rfl rfl (by kernel_rfl) (fun _ _ _ h => h) (Or.inl ⟨by rfl, ?_⟩) ?_ ?_
        rotate_left
        · intro w'
          go_simp
          with_reducible rfl
        rotate_left
        · simp only [Act.put, List.setIfInBounds_toArray, List.set_cons_zero, List.set_cons_succ, i64_w, i32_w]
          rfl
        refine pure_ (i := 3) (N := some 58) (v := ?_) (a' := ?_) #[true, false, true, true, false, false, false, false, false, false, false, false, false, false, false, false, false, false, false, false, false, false, false, false, false, false] rfl rfl (by kernel_rfl) (fun _ _ _ h => h) (Or.inl ⟨by rfl, ?_⟩) ?_ ?_
        rotate_left
        · intro w'
          go_simp
          with_reducible rfl
        rotate_left
        · simp only [Act.put, List.setIfInBounds_toArray, List.set_cons_zero, List.set_cons_succ, i64_w, i32_w]
          rfl
        refine pure_ (i := 4) (N := some 59) (v := ?_) (a' := ?_) #[true, false, true, true, true, false, false, false, false, false, false, false, false, false, false, false, false, false, false, false, false, false, false, false, false, false] rfl rfl (by kernel_rfl) (fun _ _ _ h => h) (Or.inl ⟨by rfl, ?_⟩) ?_ ?_
        rotate_left
        · intro w'
          go_simp
          with_reducible rfl
        rotate_left
        · simp only [Act.put, List.setIfInBounds_toArray, List.set_cons_zero, List.set_cons_succ, i64_w, i32_w]
          rfl
        refine take_ (i := 5) (N := some 60) (v := ?_) (a' := ?_) #[true, false, true, true, true, true, false, false, false, false, false, false, false, false, false, false, false, false, false, false, false, false, false, false, false, false] rfl rfl (by kernel_rfl) (fun _ _ _ h => h) (Or.inl ⟨by rfl, ?_⟩) hHeld ?_ ?_
        rotate_left
        · intro w' s0
          go_simp
          with_reducible rfl
        rotate_left
        · simp only [Act.put, List.setIfInBounds_toArray, List.set_cons_zero, List.set_cons_succ, i64_w, i32_w]
          rfl
        refine pure_ (i := 6) (N := some 61) (v := ?_) (a' := ?_) #[true, false, true, true, true, true, true, false, false, false, false, false, false, false, false, false, false, false, false, false, false, false, false, false, false, false] rfl rfl (by kernel_rfl) (fun _ _ _ h => h) (Or.inl ⟨by rfl, ?_⟩) ?_ ?_
        rotate_left
        · intro w'
          go_simp
          with_reducible rfl
        rotate_left
        · simp only [Act.put, List.setIfInBounds_toArray, List.set_cons_zero, List.set_cons_succ, i64_w, i32_w]
          rfl
        refine pure_ (i := 7) (N := some 62) (v := ?_) (a' := ?_) #[true, false, true, true, true, true, true, true, false, false, false, false, false, false, false, false, false, false, false, false, false, false, false, false, false, false] rfl rfl (by kernel_rfl) (fun _ _ _ h => h) (Or.inl ⟨by rfl, ?_⟩) ?_ ?_
        rotate_left
        · intro w'
          go_simp
          with_reducible rfl
        rotate_left
        · simp only [Act.put, List.setIfInBounds_toArray, List.set_cons_zero, List.set_cons_succ, i64_w, i32_w]
          rfl
        refine one_ (i := 1) (N := some 56) #[true, true, true, true, true, true, true, true, false, false, false, false, false, false, false, false, false, false, false, false, false, false, false, false, false, false] rfl rfl (by kernel_rfl) (by decide) (fun K hK => ?_)
        have hw_ := won_calls HV.out (by simp) HRL.out HVL.out
        rw [HQW.out] at hw_
        refine goes_ Try.func24 (by kernel_rfl) rfl #[.pointer (some ⟨gv, 0, none⟩)] (by rfl) rfl rfl (by simp only [List.map_toArray, List.map_cons, List.map_nil]; rfl) ?_
        with_reducible refine (hw_).mono ?_
        rintro e_ x1 ⟨rfl, hb1⟩
        refine ⟨_, rfl, ?_⟩
        have HB1 := Aside0.mk hb1
        clear hw_ hb1
        refine hK.out _ _ (pw_cell_below HB1.out hHeld) (fun hHeld => ?_)
        clear hK K
        refine norm_ (a' := ?_) ?_ ?_
        rotate_left
        · show Act.put _ (some 56) _ = _
          simp only [Act.put, List.setIfInBounds_toArray, List.set_cons_zero, List.set_cons_succ, i64_w, i32_w]
          rfl
        refine pure_ (i := 8) (N := some 63) (v := ?_) (a' := ?_) #[true, true, true, true, true, true, true, true, true, false, false, false, false, false, false, false, false, false, false, false, false, false, false, false, false, false] rfl rfl (by kernel_rfl) (fun _ _ _ h => h) (Or.inl ⟨by rfl, ?_⟩) ?_ ?_
        rotate_left
        · intro w'
          go_simp
          with_reducible rfl
        rotate_left
        · simp only [Act.put, List.setIfInBounds_toArray, List.set_cons_zero, List.set_cons_succ, i64_w, i32_w]
          rfl
        refine pure_ (i := 9) (N := some 64) (v := ?_) (a' := ?_) #[true, true, true, true, true, true, true, true, true, true, false, false, false, false, false, false, false, false, false, false, false, false, false, false, false, false] rfl rfl (by kernel_rfl) (fun _ _ _ h => h) (Or.inl ⟨by rfl, ?_⟩) ?_ ?_
        rotate_left
        · intro w'
          go_simp
          with_reducible rfl
        rotate_left
        · simp only [Act.put, List.setIfInBounds_toArray, List.set_cons_zero, List.set_cons_succ, i64_w, i32_w]
          rfl
        refine pure_ (i := 10) (N := some 65) (v := ?_) (a' := ?_) #[true, true, true, true, true, true, true, true, true, true, true, false, false, false, false, false, false, false, false, false, false, false, false, false, false, false] rfl rfl (by kernel_rfl) (fun _ _ _ h => h) (Or.inl ⟨by rfl, ?_⟩) ?_ ?_
        rotate_left
        · intro w'
          go_simp
          with_reducible rfl
        rotate_left
        · simp only [Act.put, List.setIfInBounds_toArray, List.set_cons_zero, List.set_cons_succ, i64_w, i32_w]
          rfl
        refine pure_ (i := 12) (N := some 67) (v := ?_) (a' := ?_) #[true, true, true, true, true, true, true, true, true, true, true, false, true, false, false, false, false, false, false, false, false, false, false, false, false, false] rfl rfl (by kernel_rfl) (fun _ _ _ h => h) (Or.inl ⟨by rfl, ?_⟩) ?_ ?_
        rotate_left
        · intro w'
          go_simp
          with_reducible rfl
        rotate_left
        · simp only [Act.put, List.setIfInBounds_toArray, List.set_cons_zero, List.set_cons_succ, i64_w, i32_w]
          rfl
        refine pure_ (i := 13) (N := some 68) (v := ?_) (a' := ?_) #[true, true, true, true, true, true, true, true, true, true, true, false, true, true, false, false, false, false, false, false, false, false, false, false, false, false] rfl rfl (by kernel_rfl) (fun _ _ _ h => h) (Or.inl ⟨by rfl, ?_⟩) ?_ ?_
        rotate_left
        · intro w'
          go_simp
          with_reducible rfl
        rotate_left
        · simp only [Act.put, List.setIfInBounds_toArray, List.set_cons_zero, List.set_cons_succ, i64_w, i32_w]
          rfl
        refine pure_ (i := 14) (N := some 69) (v := ?_) (a' := ?_) #[true, true, true, true, true, true, true, true, true, true, true, false, true, true, true, false, false, false, false, false, false, false, false, false, false, false] rfl rfl (by kernel_rfl) (fun _ _ _ h => h) (Or.inl ⟨by rfl, ?_⟩) ?_ ?_
        rotate_left
        · intro w'
          go_simp
          with_reducible rfl
        rotate_left
        · simp only [Act.put, List.setIfInBounds_toArray, List.set_cons_zero, List.set_cons_succ, i64_w, i32_w]
          rfl
        refine take_ (i := 15) (N := some 70) (v := ?_) (a' := ?_) #[true, true, true, true, true, true, true, true, true, true, true, false, true, true, true, true, false, false, false, false, false, false, false, false, false, false] rfl rfl (by kernel_rfl) (fun _ _ _ h => h) (Or.inl ⟨by rfl, ?_⟩) hHeld ?_ ?_
        rotate_left
        · intro w' s0
          go_simp
          with_reducible rfl
        rotate_left
        · simp only [Act.put, List.setIfInBounds_toArray, List.set_cons_zero, List.set_cons_succ, i64_w, i32_w]
          rfl
        refine pure_ (i := 16) (N := some 71) (v := ?_) (a' := ?_) #[true, true, true, true, true, true, true, true, true, true, true, false, true, true, true, true, true, false, false, false, false, false, false, false, false, false] rfl rfl (by kernel_rfl) (fun _ _ _ h => h) (Or.inl ⟨by rfl, ?_⟩) ?_ ?_
        rotate_left
        · intro w'
          go_simp
          with_reducible rfl
        rotate_left
        · simp only [Act.put, List.setIfInBounds_toArray, List.set_cons_zero, List.set_cons_succ, i64_w, i32_w]
          rfl
        refine pure_ (i := 17) (N := some 72) (v := ?_) (a' := ?_) #[true, true, true, true, true, true, true, true, true, true, true, false, true, true, true, true, true, true, false, false, false, false, false, false, false, false] rfl rfl (by kernel_rfl) (fun _ _ _ h => h) (Or.inl ⟨by rfl, ?_⟩) ?_ ?_
        rotate_left
        · intro w'
          go_simp
          with_reducible rfl
        rotate_left
        · simp only [Act.put, List.setIfInBounds_toArray, List.set_cons_zero, List.set_cons_succ, i64_w, i32_w]
          rfl
        refine one_ (i := 11) (N := some 66) #[true, true, true, true, true, true, true, true, true, true, true, true, true, true, true, true, true, true, false, false, false, false, false, false, false, false] rfl rfl (by kernel_rfl) (by decide) (fun K hK => ?_)
        have hl_ := lost_calls (HV.out.below HB1.out) (by simp) HRL.out HR1.out HMW.out
        rw [HQL.out] at hl_
        refine goes_ Try.func26 (by kernel_rfl) rfl #[.pointer (some ⟨gv, 0, none⟩)] (by rfl) rfl rfl (by simp only [List.map_toArray, List.map_cons, List.map_nil]; rfl) ?_
        with_reducible refine (hl_).mono ?_
        rintro e_ x11 ⟨rfl, hb11⟩
        refine ⟨_, rfl, ?_⟩
        have HB11 := Aside0.mk hb11
        clear hl_ hb11
        refine hK.out _ _ (pw_cell_below HB11.out hHeld) (fun hHeld => ?_)
        clear hK K
        refine norm_ (a' := ?_) ?_ ?_
        rotate_left
        · show Act.put _ (some 66) _ = _
          simp only [Act.put, List.setIfInBounds_toArray, List.set_cons_zero, List.set_cons_succ, i64_w, i32_w]
          rfl
        refine pure_ (i := 18) (N := some 73) (v := ?_) (a' := ?_) #[true, true, true, true, true, true, true, true, true, true, true, true, true, true, true, true, true, true, true, false, false, false, false, false, false, false] rfl rfl (by kernel_rfl) (fun _ _ _ h => h) (Or.inl ⟨by rfl, ?_⟩) ?_ ?_
        rotate_left
        · intro w'
          go_simp
          with_reducible rfl
        rotate_left
        · simp only [Act.put, List.setIfInBounds_toArray, List.set_cons_zero, List.set_cons_succ, i64_w, i32_w]
          rfl
        refine pure_ (i := 19) (N := some 74) (v := ?_) (a' := ?_) #[true, true, true, true, true, true, true, true, true, true, true, true, true, true, true, true, true, true, true, true, false, false, false, false, false, false] rfl rfl (by kernel_rfl) (fun _ _ _ h => h) (Or.inl ⟨by rfl, ?_⟩) ?_ ?_
        rotate_left
        · intro w'
          go_simp
          with_reducible rfl
        rotate_left
        · simp only [Act.put, List.setIfInBounds_toArray, List.set_cons_zero, List.set_cons_succ, i64_w, i32_w]
          rfl
        refine pure_ (i := 20) (N := some 75) (v := ?_) (a' := ?_) #[true, true, true, true, true, true, true, true, true, true, true, true, true, true, true, true, true, true, true, true, true, false, false, false, false, false] rfl rfl (by kernel_rfl) (fun _ _ _ h => h) (Or.inl ⟨by rfl, ?_⟩) ?_ ?_
        rotate_left
        · intro w'
          go_simp
          with_reducible rfl
        rotate_left
        · simp only [Act.put, List.setIfInBounds_toArray, List.set_cons_zero, List.set_cons_succ, i64_w, i32_w]
          rfl
        refine pure_ (i := 21) (N := some 76) (v := ?_) (a' := ?_) #[true, true, true, true, true, true, true, true, true, true, true, true, true, true, true, true, true, true, true, true, true, true, false, false, false, false] rfl rfl (by kernel_rfl) (fun _ _ _ h => h) (Or.inl ⟨by rfl, ?_⟩) ?_ ?_
        rotate_left
        · intro w'
          go_simp
          with_reducible rfl
        rotate_left
        · simp only [Act.put, List.setIfInBounds_toArray, List.set_cons_zero, List.set_cons_succ, i64_w, i32_w]
          rfl
        refine last_ (i := 22) (N := some 77) #[true, true, true, true, true, true, true, true, true, true, true, true, true, true, true, true, true, true, true, true, true, true, true, false, false, false] rfl rfl (by kernel_rfl) (by decide) (fun K hK => ?_)
        have ha_ := add_calls ((HV.out.below HB1.out).below HB11.out) (by simp) HRL.out HVL.out 9 true (by decide)
        unfold AddPost at ha_
        rw [HQ9.out] at ha_
        refine goes_ Try.func22 (by kernel_rfl) rfl #[.pointer (some ⟨gv, 0, none⟩), .int .i64 9, .bool true] (by rfl) rfl rfl (by simp only [List.map_toArray, List.map_cons, List.map_nil]; rfl) ?_
        with_reducible refine (ha_).mono ?_
        rintro e_ x22 ⟨rfl, hk22, hv22⟩
        refine ⟨_, rfl, ?_⟩
        have HK22 := Aside0.mk hk22
        clear ha_ hk22 hv22
        refine hK.out _ _ ?_
        clear hK K
        refine norm_ (a' := ?_) ?_ ?_
        rotate_left
        · show Act.put _ (some 77) _ = _
          simp only [Act.put, List.setIfInBounds_toArray, List.set_cons_zero, List.set_cons_succ, i64_w, i32_w]
          rfl
        refine pure_ (i := 23) (N := some 78) (v := ?_) (a' := ?_) #[true, true, true, true, true, true, true, true, true, true, true, true, true, true, true, true, true, true, true, true, true, true, true, true, false, false] rfl rfl (by kernel_rfl) (fun _ _ _ h => h) (Or.inl ⟨by rfl, ?_⟩) ?_ ?_
        rotate_left
        · intro w'
          go_simp
          with_reducible rfl
        rotate_left
        · simp only [Act.put, List.setIfInBounds_toArray, List.set_cons_zero, List.set_cons_succ, i64_w, i32_w]
          rfl
        refine pure_ (i := 24) (N := some 79) (v := ?_) (a' := ?_) #[true, true, true, true, true, true, true, true, true, true, true, true, true, true, true, true, true, true, true, true, true, true, true, true, true, false] rfl rfl (by kernel_rfl) (fun _ _ _ h => h) (Or.inl ⟨by rfl, ?_⟩) ?_ ?_
        rotate_left
        · intro w'
          go_simp
          with_reducible rfl
        rotate_left
        · simp only [Act.put, List.setIfInBounds_toArray, List.set_cons_zero, List.set_cons_succ, i64_w, i32_w]
          rfl
        refine pure_ (i := 25) (N := some 4) (v := ?_) (a' := ?_) #[true, true, true, true, true, true, true, true, true, true, true, true, true, true, true, true, true, true, true, true, true, true, true, true, true, true] rfl rfl (by kernel_rfl) (fun _ _ _ h => h) (Or.inl ⟨by rfl, ?_⟩) ?_ ?_
        rotate_left
        · intro w'
          go_simp
          with_reducible rfl
        rotate_left
        · simp only [Act.put, List.setIfInBounds_toArray, List.set_cons_zero, List.set_cons_succ, i64_w, i32_w]
          rfl
        refine done_ (by kernel_rfl) ?_
        go_wp2
        go_ret
        exact ⟨rfl, below_kept (below_then (below_then HBD.out HBD.out.size HB1.out) (Nat.le_trans HBD.out.size HB1.out.size) HB11.out) (Nat.le_trans HBD.out.size (Nat.le_trans HB1.out.size HB11.out.size)) (fun k hk => by subst hk; exact HGM.out.1) HK22.out⟩
end Go.Proofs.Ytbomomaidglegaa.Votes
