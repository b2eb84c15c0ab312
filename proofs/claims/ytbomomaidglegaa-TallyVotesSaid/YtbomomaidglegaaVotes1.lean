/- tally.Votes: Add, Won, Lost, by hand. -/
import Derived.Test.YtbomomaidglegaaVotes0
namespace Go.Proofs.Ytbomomaidglegaa.Votes
open Go Go.RowKit Go.Maps Go.Proofs.Ytbomomaidglegaa.XTally Go.Proofs.YtbomomaidglegaaW.PrintWords Go.Proofs.YtbomomaidglegaaW.PrintLast Go.Proofs.YtbomomaidglegaaW.PrintMore
set_option linter.unusedVariables false
set_option linter.unusedSimpArgs false

theorem meas_step_ {n k : Nat} {v : Int} (h : k < n) (hv : v = (k : Int) + 1) : n - (intOf (.int .i64 v)).toNat < n - (intOf (.int .i64 (k : Int))).toNat := by
  subst hv
  simp only [intOf, Int.toNat_natCast]
  omega
theorem zero4 (w : World) : (zeroValue 4).run Try.prog w = .ok (.bool false) w := by kernel_rfl
theorem in_f (o n : List Int) (x : Int) (ho : o.length ≤ 1000) (hn : n.length ≤ 1000) : conf_In.f 1001 o n x = some (decide (x ∈ o ∨ x ∈ n)) := by
  unfold conf_In.f
  rw [CP.contains_f o x (by omega) 1001 (by omega)]
  simp only [Option.bind_some]
  by_cases h : x ∈ o
  · simp [h]
  · rw [CP.contains_f n x (by omega) 1001 (by omega)]
    simp [h]
theorem size_Dv (vs : List (Int × Bool)) : Maps.size (Dv vs) ≤ vs.length ∧ Tidy (Dv vs) := by
  induction vs using Reach.snoc_ind with
  | h0 => exact ⟨Nat.zero_le _, tidy_empty⟩
  | h1 l p ih =>
    rw [Dv_snoc]
    refine ⟨?_, ih.2.put (Reach.key_int _) _⟩
    rw [size_put ih.2, List.length_append]
    split
    · have := ih.1; simp; omega
    · have := ih.1; simp; omega
def addOk (o n : List Int) (vs : List (Int × Bool)) (x : Int) : Bool := !decide (x ∈ vids vs) && decide (x ∈ o ∨ x ∈ n)
def addTo (o n : List Int) (vs : List (Int × Bool)) (x : Int) (y : Bool) : List (Int × Bool) := if addOk o n vs x = true then vs ++ [(x, y)] else vs
def AddPost (B : Nat) (W : World) (gv gm : Nat) (o n : List Int) (vs : List (Int × Bool)) (x : Int) (y : Bool) (e : Ending) (W' : World) : Prop :=
  e = .returned (.bool (addOk o n vs x)) ∧ Kept (fun k => k = gm) W W' ∧ IsV B W' gv gm o n (addTo o n vs x y)

set_option maxHeartbeats 4000000 in
set_option maxRecDepth 100000 in
theorem add_calls {B : Nat} {W : World} {gv gm : Nat} {o n : List Int} {vs : List (Int × Bool)} (h : IsV B W gv gm o n vs) (ho : o.length ≤ 1000) (hn : n.length ≤ 1000) (hv : vs.length ≤ 1000) (x : Int) (y : Bool) (hwx : (Lit.int .i64 x).wf = true) :
    Calls Try.prog 22 #[.pointer (some ⟨gv, 0, none⟩), .int .i64 x, .bool y] W (AddPost B W gv gm o n vs x y) := by
  have HV := Aside0.mk h
  obtain ⟨Ao, co, An, cn, hg, h1, h2, hm, hB, hC⟩ := h
  have c0 : W.cell? ⟨gv, 0, none⟩ = some (.slice Ao o.length co) := (blk_cell hg 0).trans rfl
  have c1 : W.cell? ⟨gv, 1, none⟩ = some (.slice An n.length cn) := (blk_cell hg 1).trans rfl
  have c2 : W.cell? ⟨gv, 2, none⟩ = some (.map (some gm)) := (blk_cell hg 2).trans rfl
  have hu26 := Try.underlying26
  have r1 := Kd.R_reads' h1
  have r2 := Kd.R_reads' h2
  have HM := Aside0.mk hm
  have HG := Aside0.mk hg
  have HIN := Aside0.mk (in_f o n x ho hn)
  have HR := Aside0.mk r1
  have HS := Aside0.mk r2
  have HWX := Aside0.mk hwx
  have HLV := Aside0.mk hv
  clear h1 h2 hm hg r1 r2 hwx
  go_enter Try.func22, Try.ntmps22
  by_cases hx : x ∈ vids vs
  · have hp : Maps.has (Dv vs) (.int .i64 x) = true := by rw [has_Dv]; simp [hx]
    have hok : addOk o n vs x = false := by unfold addOk; simp [hx]
    have HP := Aside0.mk hp
    clear hp
    go_wp2_with (first
      | (at_lookup; refine lookup_ok_bool _ rfl _ _ 95 rfl 3 4 Reach.law3 Try.underlying95 Try.underlying4 (zero4 _) gm vs.length (Dv vs) rfl HM.out _ _ rfl (keyOf_int_mk Try.underlying3 HWX.out) _ (atKey_Dv vs x) true HP.out ?_)
      | go_in)
    go_ret
    exact ⟨by rw [hok]; rfl, Kept.refl _ _, by unfold addTo; rw [if_neg (by rw [hok]; simp)]; exact HV.out⟩
  · have hp : Maps.has (Dv vs) (.int .i64 x) = false := by rw [has_Dv]; simp [hx]
    have HP := Aside0.mk hp
    clear hp
    have HX := Aside0.mk hx
    clear hx
    by_cases hi : x ∈ o ∨ x ∈ n
    · have hok : addOk o n vs x = true := by have hx := HX.out; unfold addOk; simp [hx, hi]
      go_wp2_with (first
      | (at_lookup; refine lookup_ok_bool _ rfl _ _ 95 rfl 3 4 Reach.law3 Try.underlying95 Try.underlying4 (zero4 _) gm vs.length (Dv vs) rfl HM.out _ _ rfl (keyOf_int_mk Try.underlying3 HWX.out) _ (atKey_Dv vs x) false HP.out ?_)
      | (go_at_call 59; refine (conf_In.calls 1001 Ao co o An cn n x true _ HR.out.2.2 HR.out.2.1 HS.out.2.2 HS.out.2.1 (by rw [HIN.out]; simp [hi])).mono ?_; rintro e w4 ⟨rfl, hb4⟩; have HB4 := Aside0.mk hb4; have d2 : w4.cell? ⟨gv, 2, none⟩ = some (.map (some gm)) := (blk_cell (blk_below HG.out hb4) 2).trans rfl; clear hb4)
      | (at_mapUpdate; refine wpList_mapUpdate_own _ rfl _ _ _ 95 rfl 3 4 Reach.law3 Try.underlying95 _ gm vs.length _ rfl (HM.out.kept (grown_of HB4.out) (by simp)) (by unfold maxLen; have := HLV.out; omega) _ _ _ rfl rfl (keyOf_int_mk Try.underlying3 HWX.out) _ [] (plainElem_bool Try.underlying4 y) ?_; intro w5 hown5 hg5)
      | go_in)
      go_ret
      refine ⟨by rw [hok]; rfl, (Kept.of_below HB4.out).trans (fun _ hk => .inl hk) (kept_grown hg5 (fun q hq => (Option.some.inj hq).symm)), ?_⟩
      unfold addTo
      rw [if_pos hok]
      exact (HV.out.below HB4.out).vote hg5 x y hown5
    · have hok : addOk o n vs x = false := by have hx := HX.out; unfold addOk; simp [hx, hi]
      go_wp2_with (first
      | (at_lookup; refine lookup_ok_bool _ rfl _ _ 95 rfl 3 4 Reach.law3 Try.underlying95 Try.underlying4 (zero4 _) gm vs.length (Dv vs) rfl HM.out _ _ rfl (keyOf_int_mk Try.underlying3 HWX.out) _ (atKey_Dv vs x) false HP.out ?_)
      | (go_at_call 59; refine (conf_In.calls 1001 Ao co o An cn n x false _ HR.out.2.2 HR.out.2.1 HS.out.2.2 HS.out.2.1 (by rw [HIN.out]; simp [hi])).mono ?_; rintro e w4 ⟨rfl, hb4⟩; have HB4 := Aside0.mk hb4; have d2 : w4.cell? ⟨gv, 2, none⟩ = some (.map (some gm)) := (blk_cell (blk_below HG.out hb4) 2).trans rfl; clear hb4)
      | go_in)
      go_ret
      exact ⟨by rw [hok]; rfl, Kept.of_below HB4.out, by unfold addTo; rw [if_neg (by rw [hok]; simp)]; exact HV.out.below HB4.out⟩

/-- Who voted yes. -/
def yesV (vs : List (Int × Bool)) : List Int := (vids vs).filter (fun j => vyes vs j)
theorem mem_yesV (vs : List (Int × Bool)) (j : Int) : j ∈ yesV vs ↔ j ∈ vids vs ∧ vyes vs j = true := by unfold yesV; rw [List.mem_filter]
def BoolPost (W : World) (b : Bool) (e : Ending) (W' : World) : Prop := e = .returned (.bool b) ∧ Below W.heap.size W W'

set_option maxHeartbeats 4000000 in
set_option maxRecDepth 100000 in
theorem won_calls {B : Nat} {W : World} {gv gm : Nat} {o n : List Int} {vs : List (Int × Bool)} (h : IsV B W gv gm o n vs) (ho : o.length ≤ 1000) (hn : n.length ≤ 1000) (hv : vs.length ≤ 1000) :
    Calls Try.prog 24 #[.pointer (some ⟨gv, 0, none⟩)] W (BoolPost W (CP.quorum o n (yesV vs))) := by
  obtain ⟨Ao, co, An, cn, hg, h1, h2, hm, hB, hC⟩ := h
  have c2 : W.cell? ⟨gv, 2, none⟩ = some (.map (some gm)) := (blk_cell hg 2).trans rfl
  have hu26 := Try.underlying26
  have HR := Aside0.mk (Kd.R_reads' h1)
  have HS := Aside0.mk (Kd.R_reads' h2)
  have HM := Aside0.mk hm
  have HG := Aside0.mk hg
  have HLV := Aside0.mk hv
  have HO := Aside0.mk ho
  have HN := Aside0.mk hn
  clear h1 h2 hm hg ho hn hv
  go_enter Try.func24, Try.ntmps24
  go_wp2_with (first
    | (at_range; refine wpList_range_own _ rfl _ 95 rfl 3 4 Reach.law3 Try.underlying95 _ gm vs.length _ rfl HM.out ?_; intro w0 hrg0 hg0 hs0)
    | go_in)
  try go_frame
  obtain ⟨r, hr⟩ : ∃ r, W.heap.size = r := ⟨_, rfl⟩
  rw [hr] at hrg0 ⊢
  have HR0 := Aside0.mk hrg0
  have HB0 := Aside0.mk (show Below W.heap.size W w0 from (Below.refl _ _).grown hg0 (Nat.le_refl _) (fun j hj => by cases hj))
  have HRZ := Aside0.mk hr
  have HZ0 := Aside0.mk (show r < w0.heap.size by rw [hs0, hr]; omega)
  clear hrg0 hg0 hs0 hr c2
  go_loopw [3] (fun v3 wr => ∃ (u3 : Value) (ys : List Int) (left : Lit → Bool) (cnt : Nat), u3 = v3 ∧ Aside0 (Kd.R (Kd.int .i64) 3 wr W.heap.size (fun k => k ≠ r ∧ k ≠ gm) u3 ys) ∧ Aside0 (wr.ranges Try.prog 3 (plainElem (H := Unit) Try.prog 4) gm r vs.length (Dv vs) left cnt) ∧ Aside0 (∀ x, left (.int .i64 x) = true → x ∈ vids vs) ∧
      Aside0 (∀ j, j ∈ ys ↔ j ∈ vids vs ∧ left (.int .i64 j) = false ∧ vyes vs j = true) ∧ Aside0 (ys.length + cnt ≤ vs.length) ∧ Aside0 (Below W.heap.size W wr) ∧ Aside0 (r < wr.heap.size))
    (fun _ wr => wr.rangeLeft gm r)
  case atStart =>
    exact ⟨_, [], _, _, rfl, ⟨Kd.R_nil _ _ _ _ _⟩, ⟨HR0.out⟩, ⟨fun x hx => by rw [has_Dv] at hx; simpa using hx⟩, ⟨fun j => by rw [has_Dv]; exact Iff.intro (fun h => (List.not_mem_nil h).elim) (fun h => by have h1 := h.1; have h2 := h.2.1; simp [h1] at h2)⟩, ⟨by have := (size_Dv vs).1; simpa using this⟩, HB0, HZ0⟩
  case round =>
    obtain ⟨u3, ys, left, cnt, rfl, HY, HI, HL, HJ, HC, HB, HZ⟩ := hrel
    clear HR0 HB0 HZ0
    go_wp2_with (first
      | (at_next; refine next_ib _ rfl _ rfl 3 4 .i64 Reach.law3 Try.underlying3 Try.underlying4 gm r vs.length _ _ _ rfl HI.out ?_ ?_)
      | go_in)
    · intro hc0 hl0
      have hqm : CP.quorum o n ys = CP.quorum o n (yesV vs) := CP.quorum_eq o n _ _ (fun j => by rw [HJ.out j, mem_yesV, hl0]; simp)
      have HQ := Aside0.mk hqm
      obtain ⟨A, c, e⟩ := Kd.R_slice HY.out
      subst e
      have hg3 := blk_below HG.out HB.out
      have q0 : wr.cell? ⟨gv, 0, none⟩ = some (.slice Ao o.length co) := (blk_cell hg3 0).trans rfl
      have q1 : wr.cell? ⟨gv, 1, none⟩ = some (.slice An n.length cn) := (blk_cell hg3 1).trans rfl
      have hrd := Kd.R_reads' HY.out
      have hcall := conf_Quorum.calls 4000 Ao co o An cn n A c ys _ wr (Kd.C_below HR.out.2.2 HB.out) HR.out.2.1 (Kd.C_below HS.out.2.2 HB.out) HS.out.2.1 hrd.2.2 hrd.2.1 (CP.quorum_f o n ys (by have := HO.out; omega) (by have := HN.out; omega) (by have := HC.out; have := HLV.out; omega) 4000 (by have := HO.out; have := HN.out; have := HC.out; have := HLV.out; omega))
      rw [hqm] at hcall
      have HCA := Aside0.mk hcall
      clear hcall hrd hg3 hqm hl0 hc0
      go_wp2_with (first
        | (go_at_call 56; refine HCA.out.mono ?_; rintro e w4 ⟨rfl, hb4⟩)
        | go_in)
      go_ret
      exact ⟨rfl, below_then HB.out HB.out.size hb4⟩
    · intro x
      refine ⟨?_, ?_⟩
      · intro w3 cnt3 hwx hlx hat hrg3 hlt3 hg3 hs3 hen3
        have hxm := HL.out x hlx
        have hcx : false = vyes vs x := by
          have e := (hat (.lit (.bool false))).symm.trans (atKey_Dv_in vs x hxm _)
          injection e with e
          injection e
        have HY3 := Aside0.mk (Kd.R_grown HY.out hg3 (fun k hk e => hk.1 (by injection e)))
        have HB3 := Aside0.mk (HB.out.grown hg3 HB.out.size (fun j hj => by cases hj; have := HRZ.out; omega))
        have HI3 := Aside0.mk hrg3
        have HZ3 := Aside0.mk (show r < w3.heap.size by rw [hs3]; exact HZ.out)
        have HLE := Aside0.mk HI.out.left_eq
        have HLX := Aside0.mk hlx
        have HXM := Aside0.mk hxm
        have HC3 := Aside0.mk hlt3
        have HCX := Aside0.mk hcx
        have HGM := Aside0.mk (show gm < W.heap.size from HM.out.lt)
        clear HY HI HB HZ hrg3 hg3 hs3 hat hlx hxm hlt3 hwx hcx
        go_wp2
        go_roundw
        case rel =>
          refine ⟨_, ys, _, cnt3, rfl, HY3, HI3, ⟨fun z hz => HL.out z (by simp at hz; exact hz.1)⟩, ⟨fun j => ?_⟩, ⟨by have := HC.out; have := HC3.out; omega⟩, HB3, HZ3⟩
          rw [HJ.out j, Reach.same_int]
          by_cases e : j = x
          · subst e
            have h1 := HLX.out
            have h2 := HCX.out
            simp [h1, ← h2]
          · simp [e]
        case measure =>
          rw [HI3.out.left_eq, HLE.out]
          exact HC3.out
      · intro w3 cnt3 hwx hlx hat hrg3 hlt3 hg3 hs3 hen3
        have hxm := HL.out x hlx
        have hcx : true = vyes vs x := by
          have e := (hat (.lit (.bool false))).symm.trans (atKey_Dv_in vs x hxm _)
          injection e with e
          injection e
        have HY3 := Aside0.mk (Kd.R_grown HY.out hg3 (fun k hk e => hk.1 (by injection e)))
        have HB3 := Aside0.mk (HB.out.grown hg3 HB.out.size (fun j hj => by cases hj; have := HRZ.out; omega))
        have HI3 := Aside0.mk hrg3
        have HZ3 := Aside0.mk (show r < w3.heap.size by rw [hs3]; exact HZ.out)
        have HLE := Aside0.mk HI.out.left_eq
        have HLX := Aside0.mk hlx
        have HXM := Aside0.mk hxm
        have HC3 := Aside0.mk hlt3
        have HCX := Aside0.mk hcx
        have HGM := Aside0.mk (show gm < W.heap.size from HM.out.lt)
        clear HY HI HB HZ hrg3 hg3 hs3 hat hlx hxm hlt3 hwx hcx
        go_wp2_with (first
          | ((with_reducible refine gate_builtin (b := .append) (xs := #[.tmp 17, .tmp 19]) rfl ?_); at_builtin; refine Kd.R_append (Kd.int .i64) (w0 := W) W.heap.size rfl (.tmp 17) (.tmp 19) 24 3 (.int .i64 0) 8 rfl Try.underlying24 Reach.info3 rfl (by decide) (by omega) u3 ys x [.int .i64 x] (fun k => k ≠ r ∧ k ≠ gm) (fun _ => False) rfl rfl rfl (fun _ hk => hk.elim) ?aF HY3.out HB3.out ?aS ?aL ?_; (case aF => intro k hk; have := HZ3.out; have := HGM.out; have := HB3.out.size; exact ⟨by omega, by omega⟩); (case aS => exact HB3.out.size); (case aL => have := HC.out; have := HLV.out; omega); intro v5 w5 ho5 hb5 hg5 hat5)
          | go_in)
        have HO5 := Aside0.mk ho5
        have hn5 : some r ≠ (u3 : Value).ownBlock := fun e => (HY3.out.1 r e.symm).1 rfl
        have hm5 : some gm ≠ (u3 : Value).ownBlock := fun e => by
          have := HY3.out.1 gm e.symm
          have := HGM.out
          omega
        have HI5 := Aside0.mk (HI3.out.kept hg5 hm5 hn5)
        go_roundw
        case rel =>
          refine ⟨_, ys ++ [x], _, cnt3, rfl, HO5, HI5, ⟨fun z hz => HL.out z (by simp at hz; exact hz.1)⟩, ⟨fun j => ?_⟩, ⟨by have := HC.out; have := HC3.out; simp; omega⟩, ⟨hb5⟩, ⟨Nat.lt_of_lt_of_le HZ3.out hg5.size⟩⟩
          rw [List.mem_append, HJ.out j, Reach.same_int]
          by_cases e : j = x
          · subst e
            have h1 := HXM.out
            have h2 := HCX.out
            simp [h1, ← h2]
          · simp [e]
        case measure =>
          rw [HI5.out.left_eq, HLE.out]
          exact HC3.out

/-- Who voted yes, or not at all. -/
def lostL (vs : List (Int × Bool)) (l : List Int) : List Int := l.filter (fun x => vyes vs x || !decide (x ∈ vids vs))
theorem lostL_snoc (vs : List (Int × Bool)) (l : List Int) (x : Int) : lostL vs (l ++ [x]) = lostL vs l ++ (if (vyes vs x || !decide (x ∈ vids vs)) = true then [x] else []) := by
  unfold lostL
  rw [List.filter_append]
  congr 1
  simp only [List.filter_cons, List.filter_nil]
theorem lostL_le (vs : List (Int × Bool)) (l : List Int) : (lostL vs l).length ≤ l.length := List.length_filter_le _ _
theorem members_le (a b : List Int) : (Mem.members a b).length ≤ a.length + b.length := by
  have := Lib.compact_length_le ((a ++ b).mergeSort fun x y => decide (x ≤ y))
  rw [List.length_mergeSort, List.length_append] at this
  exact this

set_option maxHeartbeats 4000000 in
set_option maxRecDepth 100000 in
theorem lost_calls {B : Nat} {W : World} {gv gm : Nat} {o n : List Int} {vs : List (Int × Bool)} (h : IsV B W gv gm o n vs) (ho : o.length ≤ 1000) (hn : n.length ≤ 1000) (hn1 : 1 ≤ n.length) (hwf : ∀ x ∈ Mem.members o n, (Lit.int .i64 x).wf = true) :
    Calls Try.prog 26 #[.pointer (some ⟨gv, 0, none⟩)] W (BoolPost W (!CP.quorum o n (lostL vs (Mem.members o n)))) := by
  obtain ⟨Ao, co, An, cn, hg, h1, h2, hm, hB, hC⟩ := h
  have c0 : W.cell? ⟨gv, 0, none⟩ = some (.slice Ao o.length co) := (blk_cell hg 0).trans rfl
  have c1 : W.cell? ⟨gv, 1, none⟩ = some (.slice An n.length cn) := (blk_cell hg 1).trans rfl
  have hu26 := Try.underlying26
  have HR := Aside0.mk (Kd.R_reads' h1)
  have HS := Aside0.mk (Kd.R_reads' h2)
  have HM := Aside0.mk hm
  have HG := Aside0.mk hg
  have HO := Aside0.mk ho
  have HN := Aside0.mk hn
  obtain ⟨ms, hms⟩ : ∃ ms, Mem.members o n = ms := ⟨_, rfl⟩
  have HF := Aside0.mk (show conf_Members.f o n = some ms by unfold conf_Members.f; rw [if_pos (by omega), if_pos (by omega), hms])
  have hml : ms.length ≤ 2000 := by rw [← hms]; have := members_le o n; omega
  have HLN := Aside0.mk (show ∀ i, (lostL vs (ms.take i)).length ≤ 2000 from fun i => by have h1 := lostL_le vs (ms.take i); rw [List.length_take] at h1; omega)
  rw [hms] at hwf ⊢
  have HWF := Aside0.mk hwf
  clear h1 h2 hm hg ho hn hwf hms
  go_enter Try.func26, Try.ntmps26
  go_wp2_with (first
    | (go_at_call 63; refine (conf_Members.calls Ao co o An cn n ms _ HR.out.2.2 HR.out.2.1 HS.out.2.2 HS.out.2.1 HF.out).mono ?_; rintro e_ w1 ⟨v0_, rfl, hr_, hb_⟩; obtain ⟨Am, cm, e0_⟩ := Kd.R_slice hr_; subst e0_; have HMS := Aside0.mk (Kd.R_reads' hr_); have HB1 := Aside0.mk hb_; clear hr_ hb_)
    | go_in)
  have HM1 := Aside0.mk (HM.out.kept (grown_of HB1.out) (by simp))
  have HG1 := Aside0.mk (blk_below HG.out HB1.out)
  clear c0 c1 HM HG
  go_loopw [3, 14] (fun v3 v14 wr => ∃ (u3 : Value) (i : Nat), u3 = v3 ∧ v14 = .int .i64 (i : Int) ∧ i ≤ ms.length ∧ Aside0 (Kd.R (Kd.int .i64) 3 wr w1.heap.size (fun _ => True) u3 (lostL vs (ms.take i))) ∧ Aside0 (Below w1.heap.size w1 wr))
    (fun _ v14 _ => ms.length - (intOf v14).toNat)
  case atStart => exact ⟨_, 0, rfl, rfl, Nat.zero_le _, ⟨Kd.R_nil _ _ _ _ _⟩, ⟨Below.refl _ _⟩⟩
  case round =>
    obtain ⟨u3, i, rfl, rfl, hi, HY, HB⟩ := hrel
    have hwi : wrap64 ((i : Int) + 1) = (i : Int) + 1 := by unfold wrap64; omega
    have HMW := Aside0.mk (HM1.out.kept (grown_of HB.out) (by simp))
    have hgw := blk_below HG1.out HB.out
    have q0 : wr.cell? ⟨gv, 0, none⟩ = some (.slice Ao o.length co) := (blk_cell hgw 0).trans rfl
    have q1 : wr.cell? ⟨gv, 1, none⟩ = some (.slice An n.length cn) := (blk_cell hgw 1).trans rfl
    have q2 : wr.cell? ⟨gv, 2, none⟩ = some (.map (some gm)) := (blk_cell hgw 2).trans rfl
    clear hgw
    by_cases hlt : i < ms.length
    · obtain ⟨x, hx⟩ : ∃ x, ms[i] = x := ⟨_, rfl⟩
      have htk : ms.take (i + 1) = ms.take i ++ [x] := by rw [List.take_succ_eq_append_getElem hlt, hx]
      have hsn := lostL_snoc vs (ms.take i) x
      rw [← htk] at hsn
      have HWX := Aside0.mk (HWF.out x (by rw [← hx]; exact List.getElem_mem hlt))
      obtain ⟨ad, e2, hx0⟩ := Kd.at_int (Kd.C_below HMS.out.2.2 HB.out) (i : Int) (by omega) (by omega)
      subst e2
      rw [Int.toNat_natCast, show rd ms (i : Int) = x by unfold rd; simp [List.getD, hlt, hx]] at hx0
      have hq := eq_true (show (i : Int) < (ms.length : Int) by omega)
      have hq0 := eq_true (show 0 ≤ (i : Int) by omega)
      clear htk
      by_cases hxm : x ∈ vids vs
      · have HP := Aside0.mk (show Maps.has (Dv vs) (.int .i64 x) = true by rw [has_Dv]; simp [hxm])
        by_cases hy : vyes vs x = true
        · have HA := Aside0.mk (show (Dv vs).atKey (.int .i64 x) (.lit (.bool false)) = .lit (.bool true) by rw [atKey_Dv, hy])
          have HSN := Aside0.mk (show lostL vs (ms.take (i + 1)) = lostL vs (ms.take i) ++ [x] by rw [hsn, if_pos (by simp [hy])])
          clear hsn hy hxm hx
          go_wp2_with (first
                | (at_lookup; refine lookup_ok_bool _ rfl _ _ 95 rfl 3 4 Reach.law3 Try.underlying95 Try.underlying4 (zero4 _) gm vs.length (Dv vs) rfl HMW.out _ _ rfl (keyOf_int_mk Try.underlying3 HWX.out) _ HA.out true HP.out ?_)
                | ((with_reducible refine gate_builtin (b := .append) (xs := #[.tmp 32, .tmp 34]) rfl ?_); at_builtin; refine Kd.R_append (Kd.int .i64) (w0 := w1) w1.heap.size rfl (.tmp 32) (.tmp 34) 24 3 (.int .i64 0) 8 rfl Try.underlying24 Reach.info3 rfl (by decide) (by omega) u3 (lostL vs (ms.take i)) x [.int .i64 x] (fun _ => True) (fun _ => False) rfl rfl rfl (fun _ hk => hk.elim) ?aF HY.out HB.out ?aS ?aL ?_; (case aF => exact fun _ _ => trivial); (case aS => exact HB.out.size); (case aL => have := HLN.out i; omega); intro v5 w5 ho5 hb5 hg5 hat5)
                | go_in)
          go_roundw
          case rel => exact ⟨_, i + 1, rfl, by first | rfl | (rw [hwi]; rfl), hlt, ⟨by rw [HSN.out]; exact ho5⟩, ⟨hb5⟩⟩
          case measure => exact meas_step_ hlt (by first | rfl | exact hwi)
        · have hy : vyes vs x = false := by simpa using hy
          have HA := Aside0.mk (show (Dv vs).atKey (.int .i64 x) (.lit (.bool false)) = .lit (.bool false) by rw [atKey_Dv, hy])
          have HSN := Aside0.mk (show lostL vs (ms.take (i + 1)) = lostL vs (ms.take i) by rw [hsn, if_neg (by simp [hy, hxm]), List.append_nil])
          clear hsn hy hxm hx
          go_wp2_with (first
                | (at_lookup; refine lookup_ok_bool _ rfl _ _ 95 rfl 3 4 Reach.law3 Try.underlying95 Try.underlying4 (zero4 _) gm vs.length (Dv vs) rfl HMW.out _ _ rfl (keyOf_int_mk Try.underlying3 HWX.out) _ HA.out true HP.out ?_)
                | go_in)
          go_roundw
          case rel => exact ⟨_, i + 1, rfl, by first | rfl | (rw [hwi]; rfl), hlt, ⟨by rw [HSN.out]; exact HY.out⟩, HB⟩
          case measure => exact meas_step_ hlt (by first | rfl | exact hwi)
      · have HP := Aside0.mk (show Maps.has (Dv vs) (.int .i64 x) = false by rw [has_Dv]; simp [hxm])
        have HA := Aside0.mk (show (Dv vs).atKey (.int .i64 x) (.lit (.bool false)) = .lit (.bool false) by rw [atKey_Dv, vyes_out vs x hxm])
        have HSN := Aside0.mk (show lostL vs (ms.take (i + 1)) = lostL vs (ms.take i) ++ [x] by rw [hsn, if_pos (by simp [hxm])])
        clear hsn hxm hx
        go_wp2_with (first
              | (at_lookup; refine lookup_ok_bool _ rfl _ _ 95 rfl 3 4 Reach.law3 Try.underlying95 Try.underlying4 (zero4 _) gm vs.length (Dv vs) rfl HMW.out _ _ rfl (keyOf_int_mk Try.underlying3 HWX.out) _ HA.out false HP.out ?_)
              | ((with_reducible refine gate_builtin (b := .append) (xs := #[.tmp 32, .tmp 34]) rfl ?_); at_builtin; refine Kd.R_append (Kd.int .i64) (w0 := w1) w1.heap.size rfl (.tmp 32) (.tmp 34) 24 3 (.int .i64 0) 8 rfl Try.underlying24 Reach.info3 rfl (by decide) (by omega) u3 (lostL vs (ms.take i)) x [.int .i64 x] (fun _ => True) (fun _ => False) rfl rfl rfl (fun _ hk => hk.elim) ?aF HY.out HB.out ?aS ?aL ?_; (case aF => exact fun _ _ => trivial); (case aS => exact HB.out.size); (case aL => have := HLN.out i; omega); intro v5 w5 ho5 hb5 hg5 hat5)
              | go_in)
        go_roundw
        case rel => exact ⟨_, i + 1, rfl, by first | rfl | (rw [hwi]; rfl), hlt, ⟨by rw [HSN.out]; exact ho5⟩, ⟨hb5⟩⟩
        case measure => exact meas_step_ hlt (by first | rfl | exact hwi)
    · have hil : i = ms.length := by omega
      have hq := eq_false (show ¬ (i : Int) < (ms.length : Int) by omega)
      subst hil
      rw [List.take_length] at HY
      obtain ⟨A, c, e⟩ := Kd.R_slice HY.out
      subst e
      have hrd := Kd.R_reads' HY.out
      have hl2 := HLN.out ms.length
      rw [List.take_length] at hl2
      have hbw : Below W.heap.size W wr := below_then HB1.out HB1.out.size HB.out
      have hcall := conf_Quorum.calls 5000 Ao co o An cn n A c (lostL vs ms) _ wr (Kd.C_below HR.out.2.2 hbw) HR.out.2.1 (Kd.C_below HS.out.2.2 hbw) HS.out.2.1 hrd.2.2 hrd.2.1 (CP.quorum_f o n (lostL vs ms) (by have := HO.out; omega) (by have := HN.out; omega) (by omega) 5000 (by have := HO.out; have := HN.out; omega))
      have HCA := Aside0.mk hcall
      have HBW := Aside0.mk hbw
      clear hcall hrd hbw hl2
      go_wp2_with (first
        | (go_at_call 56; refine HCA.out.mono ?_; rintro e w4 ⟨rfl, hb4⟩)
        | go_in)
      go_ret
      exact ⟨rfl, below_then HBW.out HBW.out.size hb4⟩

end Go.Proofs.Ytbomomaidglegaa.Votes
