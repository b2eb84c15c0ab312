/- tally.New, by hand. -/
import Derived.Test.YtbomomaidglegaaVotes1
namespace Go.Proofs.Ytbomomaidglegaa.Votes
open Go Go.RowKit Go.Maps Go.Proofs.Ytbomomaidglegaa.XTally Go.Proofs.YtbomomaidglegaaW.PrintWords Go.Proofs.YtbomomaidglegaaW.PrintLast Go.Proofs.YtbomomaidglegaaW.PrintMore
set_option linter.unusedVariables false
set_option linter.unusedSimpArgs false

def NewPost (W : World) (o n : List Int) (e : Ending) (W' : World) : Prop := ∃ gv gm, e = .returned (.pointer (some ⟨gv, 0, none⟩)) ∧ IsV W.heap.size W' gv gm o n [] ∧ Below W.heap.size W W'

set_option maxHeartbeats 8000000 in
set_option maxRecDepth 100000 in
theorem new_calls (W : World) (Ao : Option Addr) (co : Nat) (o : List Int) (An : Option Addr) (cn : Nat) (n : List Int) (hCo : Kd.C (Kd.int .i64) W Ao o.length o) (hLo : o.length ≤ co) (hCn : Kd.C (Kd.int .i64) W An n.length n) (hLn : n.length ≤ cn) (ho : o.length ≤ 1000) (hn : n.length ≤ 1000) :
    Calls Try.prog 21 #[.agg #[.slice Ao o.length co, .slice An n.length cn]] W (NewPost W o n) := by
  have hu26 := Try.underlying26
  have hu97 := Try.underlying97
  have hmm := @run_makeMap Try.prog
  have HLo := Aside0.mk hLo
  have HLn := Aside0.mk hLn
  have HFo := Aside0.mk (show slices_Clone_int_int.f o = some o by unfold slices_Clone_int_int.f; rw [if_pos (by omega)])
  have HFn := Aside0.mk (show slices_Clone_int_int.f n = some n by unfold slices_Clone_int_int.f; rw [if_pos (by omega)])
  have HC1 := Aside0.mk hCo
  have HC2 := Aside0.mk hCn
  clear hCo hLo hCn hLn ho hn
  go_enter Try.func21, Try.ntmps21
  go_upto_region 1 with (fail)
  generalize hw1 : World.alloc W _ = w1
  have hb1 : Below W.heap.size W w1 := by rw [← hw1]; exact below_alloc (Below.refl _ _) _
  have hx1 : w1.heap[W.heap.size]? = some (.cells #[.slice Ao o.length co, .slice An n.length cn] 26 (0, 0)) := by rw [← hw1]; exact heap_alloc_new _ _
  obtain ⟨g0, hg0⟩ : ∃ q, W.heap.size = q := ⟨_, rfl⟩
  rw [hg0] at hx1
  try rw [hg0]
  have HBD := Aside0.mk (show Below W.heap.size W w1.drew from below_drew hb1)
  have BX := Aside0.mk (blk_drew hx1)
  have HCo := Aside0.mk (Kd.C_below HC1.out HBD.out)
  have HCn := Aside0.mk (Kd.C_below HC2.out HBD.out)
  clear hw1 hb1 hx1 HC1 HC2
  refine start_ (n := 11) (S := fun w' => w'.cell? ⟨g0, 0, none⟩ = some (Value.slice Ao o.length co) ∧ w'.cell? ⟨g0, 1, none⟩ = some (Value.slice An n.length cn)) (ds := [9]) #[false, false, false, false, false, false, false, false, false, false, false] (by kernel_rfl) rfl rfl ⟨(blk_cell BX.out 0).trans rfl, (blk_cell BX.out 1).trans rfl⟩ (fun hHeld => ?_)
  have hHX := hHeld
  generalize w1.drew = wd at HBD BX HCo HCn hHeld hHX ⊢
  refine pure_ (i := 0) (N := some 3) (v := ?_) (a' := ?_) #[true, false, false, false, false, false, false, false, false, false, false] rfl rfl (by kernel_rfl) (fun _ _ _ h => h) (Or.inl ⟨by rfl, ?_⟩) ?_ ?_
  rotate_left
  · intro w'
    go_simp
    with_reducible rfl
  rotate_left
  · simp only [Act.put, List.setIfInBounds_toArray, List.set_cons_zero, List.set_cons_succ, i64_w, i32_w]
    rfl
  refine pure_ (i := 3) (N := some 6) (v := ?_) (a' := ?_) #[true, false, false, true, false, false, false, false, false, false, false] rfl rfl (by kernel_rfl) (fun _ _ _ h => h) (Or.inl ⟨by rfl, ?_⟩) ?_ ?_
  rotate_left
  · intro w'
    go_simp
    with_reducible rfl
  rotate_left
  · simp only [Act.put, List.setIfInBounds_toArray, List.set_cons_zero, List.set_cons_succ, i64_w, i32_w]
    rfl
  refine take_ (i := 1) (N := some 4) (v := ?_) (a' := ?_) #[true, true, false, true, false, false, false, false, false, false, false] rfl rfl (by kernel_rfl) (fun _ _ _ h => h) (Or.inl ⟨by rfl, ?_⟩) hHeld ?_ ?_
  rotate_left
  · rintro w' ⟨s0, s1⟩
    go_simp
    with_reducible rfl
  rotate_left
  · simp only [Act.put, List.setIfInBounds_toArray, List.set_cons_zero, List.set_cons_succ, i64_w, i32_w]
    rfl
  refine take_ (i := 4) (N := some 7) (v := ?_) (a' := ?_) #[true, true, false, true, true, false, false, false, false, false, false] rfl rfl (by kernel_rfl) (fun _ _ _ h => h) (Or.inl ⟨by rfl, ?_⟩) hHeld ?_ ?_
  rotate_left
  · rintro w' ⟨s0, s1⟩
    go_simp
    with_reducible rfl
  rotate_left
  · simp only [Act.put, List.setIfInBounds_toArray, List.set_cons_zero, List.set_cons_succ, i64_w, i32_w]
    rfl
  refine join_ (σ := Value × Value × Value × Nat) 3 #[true, true, true, true, true, true, true, true, false, false, false] (fun s => [(5, s.1), (8, s.2.1), (9, s.2.2.1), (10, Value.map (some s.2.2.2))]) (fun s w' => Below wd.heap.size wd w' ∧ s.2.2.1 = Value.agg #[s.1, s.2.1] ∧ Kd.R (Kd.int .i64) 3 w' wd.heap.size (fun _ => True) s.1 o ∧ Kd.R (Kd.int .i64) 3 w' wd.heap.size (fun _ => True) s.2.1 n ∧ w'.ownsMap Try.prog 3 (plainElem (H := Unit) Try.prog 4) s.2.2.2 0 (.map []) ∧ wd.heap.size ≤ s.2.2.2) ?_ ?_
  rotate_left
  · intro hCont
    refine two_ (i := 2) (j := 7) (Ni := some 5) (Nj := some 10) #[true, true, true, true, true, false, false, false, false, false, false] #[true, true, false, true, true, false, false, true, false, false, false] rfl rfl rfl rfl (by kernel_rfl) (by decide) (by decide) (fun K hK => ?_) (fun K hK => ?_)
    · skip
      refine goes_ Try.func58 (by kernel_rfl) rfl #[.slice Ao o.length co] (by rfl) rfl rfl (by simp only [List.map_toArray, List.map_cons, List.map_nil]; rfl) ?_
      with_reducible refine (slices_Clone_int_int.calls Ao co o o _ (Kd.C_below HCo.out (Below.refl _ _)) HLo.out HFo.out).mono ?_
      rintro e_ x2 ⟨v2, rfl, r_, hs_⟩
      refine ⟨_, rfl, ?_⟩
      have HSx2 := Aside0.mk hs_
      have HBx2 := Aside0.mk (below_then (Below.refl _ _) (Nat.le_refl _) hs_ : Below wd.heap.size wd x2)
      obtain ⟨A2, c2, e2_⟩ := Kd.R_slice r_
      subst e2_
      have HRx2 := Aside0.mk (Kd.R_lower r_ (Nat.le_refl _) : Kd.R (Kd.int .i64) 3 x2 wd.heap.size (fun _ => True) (.slice A2 o.length c2) o)
      clear r_ hs_
      refine hK.out _ _ ⟨pw_cell_below HSx2.out (hHeld.1), pw_cell_below HSx2.out (hHeld.2)⟩ (fun hHeld => ?_)
      clear hK K
      refine norm_ (a' := ?_) ?_ ?_
      rotate_left
      · show Act.put _ (some 5) _ = _
        simp only [Act.put, List.setIfInBounds_toArray, List.set_cons_zero, List.set_cons_succ, i64_w, i32_w]
        rfl
      refine two_ (i := 5) (j := 7) (Ni := some 8) (Nj := some 10) #[true, true, true, true, true, true, false, false, false, false, false] #[true, true, true, true, true, false, false, true, false, false, false] rfl rfl rfl rfl (by kernel_rfl) (by decide) (by decide) (fun K hK => ?_) (fun K hK => ?_)
      · skip
        refine goes_ Try.func58 (by kernel_rfl) rfl #[.slice An n.length cn] (by rfl) rfl rfl (by simp only [List.map_toArray, List.map_cons, List.map_nil]; rfl) ?_
        with_reducible refine (slices_Clone_int_int.calls An cn n n _ (Kd.C_below HCn.out HBx2.out) HLn.out HFn.out).mono ?_
        rintro e_ x5 ⟨v5, rfl, r_, hs_⟩
        refine ⟨_, rfl, ?_⟩
        have HSx5 := Aside0.mk hs_
        have HBx5 := Aside0.mk (below_then HBx2.out HBx2.out.size hs_ : Below wd.heap.size wd x5)
        obtain ⟨A5, c5, e2_⟩ := Kd.R_slice r_
        subst e2_
        have HRx5 := Aside0.mk (Kd.R_lower r_ HBx2.out.size : Kd.R (Kd.int .i64) 3 x5 wd.heap.size (fun _ => True) (.slice A5 n.length c5) n)
        clear r_ hs_
        refine hK.out _ _ ⟨pw_cell_below HSx5.out (hHeld.1), pw_cell_below HSx5.out (hHeld.2)⟩ (fun hHeld => ?_)
        clear hK K
        refine norm_ (a' := ?_) ?_ ?_
        rotate_left
        · show Act.put _ (some 8) _ = _
          simp only [Act.put, List.setIfInBounds_toArray, List.set_cons_zero, List.set_cons_succ, i64_w, i32_w]
          rfl
        refine pure_ (i := 6) (N := some 9) (v := ?_) (a' := ?_) #[true, true, true, true, true, true, true, false, false, false, false] rfl rfl (by kernel_rfl) (fun _ _ _ h => h) (Or.inl ⟨by rfl, ?_⟩) ?_ ?_
        rotate_left
        · intro w'
          go_simp
          with_reducible rfl
        rotate_left
        · simp only [Act.put, List.setIfInBounds_toArray, List.set_cons_zero, List.set_cons_succ, i64_w, i32_w]
          rfl
        refine one_ (i := 7) (N := some 10) #[true, true, true, true, true, true, true, true, false, false, false] rfl rfl (by kernel_rfl) (by decide) (fun K hK => ?_)
        refine value_ (w1 := ?_) (v := ?_) (by rfl) rfl ?_ ?_
        rotate_left 2
        · go_simp
          constructor
          · rfl
          · rfl
        have hm_ := World.ownsMap_made (H := Unit) x5 Try.prog 3 (plainElem Try.prog 4)
        generalize hx_ : World.alloc x5 _ = x7 at hm_
        try rw [hx_]
        have hs_ : Below x5.heap.size x5 x7 := by rw [← hx_]; exact below_alloc (Below.refl _ _) _
        obtain ⟨gm, hg_⟩ : ∃ q, x5.heap.size = q := ⟨_, rfl⟩
        rw [hg_] at hm_
        try rw [hg_]
        have HGM := Aside0.mk (show wd.heap.size ≤ gm by rw [← hg_]; exact HBx5.out.size)
        have HSx7 := Aside0.mk hs_
        have HBx7 := Aside0.mk (below_then HBx5.out HBx5.out.size hs_ : Below wd.heap.size wd x7)
        have HM7 := Aside0.mk hm_
        clear hx_ hs_ hm_ hg_
        refine hK.out _ _ ⟨pw_cell_below HSx7.out (hHeld.1), pw_cell_below HSx7.out (hHeld.2)⟩ (fun hHeld => ?_)
        clear hK K
        refine norm_ (a' := ?_) ?_ ?_
        rotate_left
        · show Act.put _ (some 10) _ = _
          simp only [Act.put, List.setIfInBounds_toArray, List.set_cons_zero, List.set_cons_succ, i64_w, i32_w]
          rfl
        exact norm_ (by simp only [putAll, Act.put, List.setIfInBounds_toArray, List.set_cons_zero, List.set_cons_succ]) (hCont (Value.slice A2 o.length c2, Value.slice A5 n.length c5, Value.agg #[Value.slice A2 o.length c2, Value.slice A5 n.length c5], gm) _ ⟨HBx7.out, rfl, (Kd.R_below (Kd.R_below HRx2.out HSx5.out) HSx7.out), (Kd.R_below HRx5.out HSx7.out), HM7.out, HGM.out⟩)
      · skip
        refine value_ (w1 := ?_) (v := ?_) (by rfl) rfl ?_ ?_
        rotate_left 2
        · go_simp
          constructor
          · rfl
          · rfl
        have hm_ := World.ownsMap_made (H := Unit) x2 Try.prog 3 (plainElem Try.prog 4)
        generalize hx_ : World.alloc x2 _ = x7 at hm_
        try rw [hx_]
        have hs_ : Below x2.heap.size x2 x7 := by rw [← hx_]; exact below_alloc (Below.refl _ _) _
        obtain ⟨gm, hg_⟩ : ∃ q, x2.heap.size = q := ⟨_, rfl⟩
        rw [hg_] at hm_
        try rw [hg_]
        have HGM := Aside0.mk (show wd.heap.size ≤ gm by rw [← hg_]; exact HBx2.out.size)
        have HSx7 := Aside0.mk hs_
        have HBx7 := Aside0.mk (below_then HBx2.out HBx2.out.size hs_ : Below wd.heap.size wd x7)
        have HM7 := Aside0.mk hm_
        clear hx_ hs_ hm_ hg_
        refine hK.out _ _ ⟨pw_cell_below HSx7.out (hHeld.1), pw_cell_below HSx7.out (hHeld.2)⟩ (fun hHeld => ?_)
        clear hK K
        refine norm_ (a' := ?_) ?_ ?_
        rotate_left
        · show Act.put _ (some 10) _ = _
          simp only [Act.put, List.setIfInBounds_toArray, List.set_cons_zero, List.set_cons_succ, i64_w, i32_w]
          rfl
        refine one_ (i := 5) (N := some 8) #[true, true, true, true, true, true, false, true, false, false, false] rfl rfl (by kernel_rfl) (by decide) (fun K hK => ?_)
        refine goes_ Try.func58 (by kernel_rfl) rfl #[.slice An n.length cn] (by rfl) rfl rfl (by simp only [List.map_toArray, List.map_cons, List.map_nil]; rfl) ?_
        with_reducible refine (slices_Clone_int_int.calls An cn n n _ (Kd.C_below HCn.out HBx7.out) HLn.out HFn.out).mono ?_
        rintro e_ x5 ⟨v5, rfl, r_, hs_⟩
        refine ⟨_, rfl, ?_⟩
        have HSx5 := Aside0.mk hs_
        have HBx5 := Aside0.mk (below_then HBx7.out HBx7.out.size hs_ : Below wd.heap.size wd x5)
        obtain ⟨A5, c5, e2_⟩ := Kd.R_slice r_
        subst e2_
        have HRx5 := Aside0.mk (Kd.R_lower r_ HBx7.out.size : Kd.R (Kd.int .i64) 3 x5 wd.heap.size (fun _ => True) (.slice A5 n.length c5) n)
        clear r_ hs_
        refine hK.out _ _ ⟨pw_cell_below HSx5.out (hHeld.1), pw_cell_below HSx5.out (hHeld.2)⟩ (fun hHeld => ?_)
        clear hK K
        refine norm_ (a' := ?_) ?_ ?_
        rotate_left
        · show Act.put _ (some 8) _ = _
          simp only [Act.put, List.setIfInBounds_toArray, List.set_cons_zero, List.set_cons_succ, i64_w, i32_w]
          rfl
        refine pure_ (i := 6) (N := some 9) (v := ?_) (a' := ?_) #[true, true, true, true, true, true, true, true, false, false, false] rfl rfl (by kernel_rfl) (fun _ _ _ h => h) (Or.inl ⟨by rfl, ?_⟩) ?_ ?_
        rotate_left
        · intro w'
          go_simp
          with_reducible rfl
        rotate_left
        · simp only [Act.put, List.setIfInBounds_toArray, List.set_cons_zero, List.set_cons_succ, i64_w, i32_w]
          rfl
        exact norm_ (by simp only [putAll, Act.put, List.setIfInBounds_toArray, List.set_cons_zero, List.set_cons_succ]) (hCont (Value.slice A2 o.length c2, Value.slice A5 n.length c5, Value.agg #[Value.slice A2 o.length c2, Value.slice A5 n.length c5], gm) _ ⟨HBx5.out, rfl, (Kd.R_below (Kd.R_below HRx2.out HSx7.out) HSx5.out), HRx5.out, (HM7.out.kept (grown_of HSx5.out) (by simp)), HGM.out⟩)
    · skip
      refine value_ (w1 := ?_) (v := ?_) (by rfl) rfl ?_ ?_
      rotate_left 2
      · go_simp
        constructor
        · rfl
        · rfl
      have hm_ := World.ownsMap_made (H := Unit) wd Try.prog 3 (plainElem Try.prog 4)
      generalize hx_ : World.alloc wd _ = x7 at hm_
      try rw [hx_]
      have hs_ : Below wd.heap.size wd x7 := by rw [← hx_]; exact below_alloc (Below.refl _ _) _
      obtain ⟨gm, hg_⟩ : ∃ q, wd.heap.size = q := ⟨_, rfl⟩
      rw [hg_] at hm_
      try rw [hg_]
      have HGM := Aside0.mk (show wd.heap.size ≤ gm by rw [← hg_]; exact (Nat.le_refl _))
      have HSx7 := Aside0.mk hs_
      have HBx7 := Aside0.mk (below_then (Below.refl _ _) (Nat.le_refl _) hs_ : Below wd.heap.size wd x7)
      have HM7 := Aside0.mk hm_
      clear hx_ hs_ hm_ hg_
      refine hK.out _ _ ⟨pw_cell_below HSx7.out (hHeld.1), pw_cell_below HSx7.out (hHeld.2)⟩ (fun hHeld => ?_)
      clear hK K
      refine norm_ (a' := ?_) ?_ ?_
      rotate_left
      · show Act.put _ (some 10) _ = _
        simp only [Act.put, List.setIfInBounds_toArray, List.set_cons_zero, List.set_cons_succ, i64_w, i32_w]
        rfl
      refine one_ (i := 2) (N := some 5) #[true, true, true, true, true, false, false, true, false, false, false] rfl rfl (by kernel_rfl) (by decide) (fun K hK => ?_)
      refine goes_ Try.func58 (by kernel_rfl) rfl #[.slice Ao o.length co] (by rfl) rfl rfl (by simp only [List.map_toArray, List.map_cons, List.map_nil]; rfl) ?_
      with_reducible refine (slices_Clone_int_int.calls Ao co o o _ (Kd.C_below HCo.out HBx7.out) HLo.out HFo.out).mono ?_
      rintro e_ x2 ⟨v2, rfl, r_, hs_⟩
      refine ⟨_, rfl, ?_⟩
      have HSx2 := Aside0.mk hs_
      have HBx2 := Aside0.mk (below_then HBx7.out HBx7.out.size hs_ : Below wd.heap.size wd x2)
      obtain ⟨A2, c2, e2_⟩ := Kd.R_slice r_
      subst e2_
      have HRx2 := Aside0.mk (Kd.R_lower r_ HBx7.out.size : Kd.R (Kd.int .i64) 3 x2 wd.heap.size (fun _ => True) (.slice A2 o.length c2) o)
      clear r_ hs_
      refine hK.out _ _ ⟨pw_cell_below HSx2.out (hHeld.1), pw_cell_below HSx2.out (hHeld.2)⟩ (fun hHeld => ?_)
      clear hK K
      refine norm_ (a' := ?_) ?_ ?_
      rotate_left
      · show Act.put _ (some 5) _ = _
        simp only [Act.put, List.setIfInBounds_toArray, List.set_cons_zero, List.set_cons_succ, i64_w, i32_w]
        rfl
      refine one_ (i := 5) (N := some 8) #[true, true, true, true, true, true, false, true, false, false, false] rfl rfl (by kernel_rfl) (by decide) (fun K hK => ?_)
      refine goes_ Try.func58 (by kernel_rfl) rfl #[.slice An n.length cn] (by rfl) rfl rfl (by simp only [List.map_toArray, List.map_cons, List.map_nil]; rfl) ?_
      with_reducible refine (slices_Clone_int_int.calls An cn n n _ (Kd.C_below HCn.out HBx2.out) HLn.out HFn.out).mono ?_
      rintro e_ x5 ⟨v5, rfl, r_, hs_⟩
      refine ⟨_, rfl, ?_⟩
      have HSx5 := Aside0.mk hs_
      have HBx5 := Aside0.mk (below_then HBx2.out HBx2.out.size hs_ : Below wd.heap.size wd x5)
      obtain ⟨A5, c5, e2_⟩ := Kd.R_slice r_
      subst e2_
      have HRx5 := Aside0.mk (Kd.R_lower r_ HBx2.out.size : Kd.R (Kd.int .i64) 3 x5 wd.heap.size (fun _ => True) (.slice A5 n.length c5) n)
      clear r_ hs_
      refine hK.out _ _ ⟨pw_cell_below HSx5.out (hHeld.1), pw_cell_below HSx5.out (hHeld.2)⟩ (fun hHeld => ?_)
      clear hK K
      refine norm_ (a' := ?_) ?_ ?_
      rotate_left
      · show Act.put _ (some 8) _ = _
        simp only [Act.put, List.setIfInBounds_toArray, List.set_cons_zero, List.set_cons_succ, i64_w, i32_w]
        rfl
      refine pure_ (i := 6) (N := some 9) (v := ?_) (a' := ?_) #[true, true, true, true, true, true, true, true, false, false, false] rfl rfl (by kernel_rfl) (fun _ _ _ h => h) (Or.inl ⟨by rfl, ?_⟩) ?_ ?_
      rotate_left
      · intro w'
        go_simp
        with_reducible rfl
      rotate_left
      · simp only [Act.put, List.setIfInBounds_toArray, List.set_cons_zero, List.set_cons_succ, i64_w, i32_w]
        rfl
      exact norm_ (by simp only [putAll, Act.put, List.setIfInBounds_toArray, List.set_cons_zero, List.set_cons_succ]) (hCont (Value.slice A2 o.length c2, Value.slice A5 n.length c5, Value.agg #[Value.slice A2 o.length c2, Value.slice A5 n.length c5], gm) _ ⟨HBx5.out, rfl, (Kd.R_below HRx2.out HSx5.out), HRx5.out, ((HM7.out.kept (grown_of HSx2.out) (by simp)).kept (grown_of HSx5.out) (by simp)), HGM.out⟩)
  rintro ⟨v2, v5, v9, gm⟩ w4 ⟨hb4, e9, hr2, hr5, hm4, hg4⟩
  dsimp only at e9 hr2 hr5 hm4 hg4
  obtain ⟨A2, c2, e2_⟩ := Kd.R_slice hr2
  obtain ⟨A5, c5, e5_⟩ := Kd.R_slice hr5
  subst e2_
  subst e5_
  subst e9
  have HB4 := Aside0.mk hb4
  have HR2 := Aside0.mk hr2
  have HR5 := Aside0.mk hr5
  have HM4 := Aside0.mk hm4
  have HG4 := Aside0.mk hg4
  clear hb4 hr2 hr5 hm4 hg4
  have hHeld : w4.cell? ⟨g0, 0, none⟩ = some (Value.slice Ao o.length co) ∧ w4.cell? ⟨g0, 1, none⟩ = some (Value.slice An n.length cn) := ⟨pw_cell_below HB4.out (hHX.1), pw_cell_below HB4.out (hHX.2)⟩
  refine norm_ (a' := ?_) ?_ ?_
  rotate_left
  · simp only [putAll, Act.put, List.setIfInBounds_toArray, List.set_cons_zero, List.set_cons_succ]
    rfl
  refine pure_ (i := 8) (N := some 11) (v := ?_) (a' := ?_) #[true, true, true, true, true, true, true, true, true, false, false] rfl rfl (by kernel_rfl) (fun _ _ _ h => h) (Or.inl ⟨by rfl, ?_⟩) ?_ ?_
  rotate_left
  · intro w'
    go_simp
    with_reducible rfl
  rotate_left
  · simp only [Act.put, List.setIfInBounds_toArray, List.set_cons_zero, List.set_cons_succ, i64_w, i32_w]
    rfl
  refine last_ (i := 9) (N := some 12) #[true, true, true, true, true, true, true, true, true, true, false] rfl rfl (by kernel_rfl) (by decide) (fun K hK => ?_)
  refine value_ (w1 := ?_) (v := ?_) (by rfl) rfl ?_ ?_
  rotate_left 2
  · go_simp
    constructor
    · rfl
    · rfl
  refine hK.out _ _ ?_
  clear hK K
  refine norm_ (a' := ?_) ?_ ?_
  rotate_left
  · show Act.put _ (some 12) _ = _
    simp only [Act.put, List.setIfInBounds_toArray, List.set_cons_zero, List.set_cons_succ, i64_w, i32_w]
    rfl
  refine pure_ (i := 10) (N := some 2) (v := ?_) (a' := ?_) #[true, true, true, true, true, true, true, true, true, true, true] rfl rfl (by kernel_rfl) (fun _ _ _ h => h) (Or.inl ⟨by rfl, ?_⟩) ?_ ?_
  rotate_left
  · intro w'
    go_simp
    with_reducible rfl
  rotate_left
  · simp only [Act.put, List.setIfInBounds_toArray, List.set_cons_zero, List.set_cons_succ, i64_w, i32_w]
    rfl
  refine done_ (by kernel_rfl) ?_
  generalize hw5 : World.alloc w4 _ = w5
  have hb5 : Below w4.heap.size w4 w5 := by rw [← hw5]; exact below_alloc (Below.refl _ _) _
  have hx5 : w5.heap[w4.heap.size]? = some (.cells #[.slice A2 o.length c2, .slice A5 n.length c5, .map (some gm)] 97 (0, 0)) := by rw [← hw5]; exact heap_alloc_new _ _
  go_wp2
  go_ret
  have hW4 : W.heap.size ≤ w4.heap.size := Nat.le_trans HBD.out.size HB4.out.size
  exact ⟨w4.heap.size, gm, rfl, ⟨A2, c2, A5, c5, hx5, Kd.R_below (Kd.R_lower HR2.out HBD.out.size) hb5, Kd.R_below (Kd.R_lower HR5.out HBD.out.size) hb5, HM4.out.kept (grown_of hb5) (by simp), hW4, Nat.le_trans HBD.out.size HG4.out⟩, below_then (below_then HBD.out HBD.out.size HB4.out) hW4 hb5⟩
end Go.Proofs.Ytbomomaidglegaa.Votes
