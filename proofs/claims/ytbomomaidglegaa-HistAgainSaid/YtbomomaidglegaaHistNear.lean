/- The law's near: a call near what may be. -/
import Derived.Test.YtbomomaidglegaaHistYput
import Derived.Deep.LoopGhost
import Derived.WalkSpells
namespace Go.Proofs.Ytbomomaidglegaa.Hist
open Go Go.RowKit Go.Proofs.Ytbomomaidglegaa.XHist Go.Proofs.YtbomomaidglegaaW.PrintWords Go.Proofs.YtbomomaidglegaaW.PrintLast Go.Proofs.YtbomomaidglegaaW.PrintMore
set_option linter.unusedVariables false
set_option linter.unusedSimpArgs false


attribute [local go_sem] max2_int min2_int max_two min_two
theorem R_set {W : World} {B g n c : Nat} {ok : Nat → Prop} {l : List Int} (h : Kd.R (Kd.int .i64) 3 W B ok (.slice (some ⟨g, 0, none⟩) n c) l) (k : Nat) (v : Int) :
    Kd.R (Kd.int .i64) 3 (W.setCell ⟨g, k, none⟩ (.int .i64 v)) B ok (.slice (some ⟨g, 0, none⟩) n c) (l.set k v) := by
  have hn := (Kd.R_reads' h).1
  have ho := Kd.own_of_R h
  subst hn
  have hs := (own_store_of ho (k : Int) v).1
  rw [Int.toNat_natCast] at hs
  refine Kd.R_of_own ?_ h.1
  rw [List.length_set]
  exact hs
theorem R_at {W : World} {B g n c : Nat} {ok : Nat → Prop} {l : List Int} (h : Kd.R (Kd.int .i64) 3 W B ok (.slice (some ⟨g, 0, none⟩) n c) l) (k : Nat) (hk : k < l.length) :
    W.cell? ⟨g, k, none⟩ = some (.int .i64 (rd l (k : Int))) ∧ W.frozen? ⟨g, k, none⟩ = false := by
  have hn := (Kd.R_reads' h).1
  have ho := Kd.own_of_R h
  subst hn
  have h2 := own_at (k := .i64) (xs := l) ho (k : Int) (by omega) (by omega)
  rw [Int.toNat_natCast] at h2
  exact h2

/-- What near leaves: a call as long as the shorter one of its lists. -/
def NPost (p : Bool) (W : World) (At : Option Addr) (n ct : Nat) (Ae : Option Addr) (m ce : Nat) (B : Nat) (ok : Nat → Prop) (e : Ending) (w' : World) : Prop :=
  ∃ (ix tx : Int) (tl : List Int), e = .returned (.agg #[.bool p, .int .i64 ix, .int .i64 tx, .slice At (min n m) ct, .slice Ae (min n m) ce]) ∧ tl.length = n ∧ Kd.R (Kd.int .i64) 3 w' B ok (.slice At n ct) tl ∧ Kept (fun q => some q = (Value.slice At n ct).ownBlock) W w'

theorem R_far_ {W : World} {B g : Nat} {ok : Nat → Prop} {v : Value} {l : List Int} (h : Kd.R (Kd.int .i64) 3 W B ok v l) (hne : some g ≠ v.ownBlock) (i : Nat) (u : Value) : Kd.R (Kd.int .i64) 3 (W.setCell ⟨g, i, none⟩ u) B ok v l :=
  Kd.R_of_own (own_setCell (Kd.own_of_R h) (p := ⟨g, i, none⟩) hne u) h.1
theorem NPost.mk {p : Bool} {W w' : World} {At : Option Addr} {n ct : Nat} {Ae : Option Addr} {m ce B : Nat} {ok : Nat → Prop} {j : Nat} (hj : min n m = j) (ix tx : Int) (tl : List Int) (h1 : tl.length = n) (h2 : Kd.R (Kd.int .i64) 3 w' B ok (.slice At n ct) tl) (h3 : Kept (fun q => some q = (Value.slice At n ct).ownBlock) W w') :
    NPost p W At n ct Ae m ce B ok (.returned (.agg #[.bool p, .int .i64 ix, .int .i64 tx, .slice At j ct, .slice Ae j ce])) w' := ⟨ix, tx, tl, by rw [hj], h1, h2, h3⟩

set_option maxHeartbeats 16000000 in
set_option maxRecDepth 100000 in
theorem near_calls {B B' : Nat} {W : World} {gx : Nat} {F ok : Nat → Prop} {b : Int} {ts : List Int} {es : List S77} (h : IsY B W gx F b ts es) (p : Bool) (i0 t0 : Int) (At : Option Addr) (ct : Nat) (l : List Int) (Ae : Option Addr) (m ce : Nat)
    (hR : Kd.R (Kd.int .i64) 3 W B' ok (.slice At l.length ct) l) (hF : ∀ q, (Value.slice At l.length ct).ownBlock = some q → ¬ F q) (hl : l.length < 1000000) (hm : m < 1000000) (hce : m ≤ ce) :
    Calls Try.prog 40 #[.agg #[.bool p, .int .i64 i0, .int .i64 t0, .slice At l.length ct, .slice Ae m ce], .pointer (some ⟨gx, 0, none⟩)] W (NPost p W At l.length ct Ae m ce B' ok) := by
  have hu54 := Try.underlying54
  obtain ⟨hb00, hb64, hll⟩ := h.bounds
  have HX := Aside0.mk h
  have HR := Aside0.mk hR
  have HF := Aside0.mk hF
  have HCE := Aside0.mk hce
  have HCT := Aside0.mk (Kd.R_reads' hR).2.1
  have hxc : W.cell? ⟨gx, 0, none⟩ = some (.int .i64 b) := by
    obtain ⟨_, _, _, _, hb, _⟩ := h
    exact (blk_cell hb 0).trans rfl
  have HXC0 := Aside0.mk hxc
  clear h hR hF hce hxc
  obtain ⟨n, hn⟩ : ∃ n, l.length = n := ⟨_, rfl⟩
  have HN := Aside0.mk hn
  have HR1 := HR.out
  rw [hn] at HR1 hl ⊢
  have HR := Aside0.mk HR1
  have HF1 := HF.out
  have HCT1 := HCT.out
  rw [hn] at HF1 HCT1
  have HF := Aside0.mk HF1
  have HCT := Aside0.mk HCT1
  clear hn HR1 HF1 HCT1
  go_enter Try.func40, Try.ntmps40
  go_upto_region 1 with (fail)
  generalize hwa : World.alloc (World.alloc W _) _ = wa
  have hba : Below W.heap.size W wa := by rw [← hwa]; exact below_alloc (below_alloc (Below.refl _ _) _) _
  have hbc : wa.heap[W.heap.size]? = some (.cells #[.bool p, .int .i64 i0, .int .i64 t0, .slice At n ct, .slice Ae m ce] 54 (0, 0)) := by rw [← hwa]; exact blk_alloc (heap_alloc_new _ _) _
  have hbr : wa.heap[W.heap.size + 1]? = some (.cells #[.bool false, .int .i64 0, .int .i64 0, .slice none 0 0, .slice none 0 0] 54 (0, 0)) := by
    rw [← hwa, show W.heap.size + 1 = (World.alloc W (.cells #[.bool p, .int .i64 i0, .int .i64 t0, .slice At n ct, .slice Ae m ce] 54)).heap.size by simp]
    exact heap_alloc_new _ _
  obtain ⟨gc, hgc⟩ : ∃ q, W.heap.size = q := ⟨_, rfl⟩
  try rw [hgc]
  rw [hgc] at hbc hbr
  have HGC := Aside0.mk hgc
  have HBA := Aside0.mk hba
  have HBD := Aside0.mk (below_drew hba)
  have BC := Aside0.mk (show wa.drew.heap[gc]? = _ from hbc)
  have BR := Aside0.mk (show wa.drew.heap[gc + 1]? = _ from hbr)
  have HXD := Aside0.mk (HX.out.below HBD.out)
  have HXC := Aside0.mk (pw_cell_below HBD.out HXC0.out)
  clear hwa hba hbc hbr hgc
  refine start_ (n := 13) (S := fun w' => w'.cell? ⟨gx, 0, none⟩ = some (Value.int .i64 b) ∧ w'.cell? ⟨gc, 1, none⟩ = some (Value.int .i64 i0)) (ds := [12]) #[false, false, false, false, false, false, false, false, false, false, false, false, false] (by kernel_rfl) rfl rfl ⟨HXC.out, (blk_cell BC.out 1).trans rfl⟩ (fun hHeld => ?_)
  generalize wa.drew = wd at HBD BC BR HXD HXC hHeld ⊢
  refine pure_ (i := 0) (N := some 7) (v := ?_) (a' := ?_) #[true, false, false, false, false, false, false, false, false, false, false, false, false] rfl rfl (by kernel_rfl) (fun _ _ _ h => h) (Or.inl ⟨by rfl, ?_⟩) ?_ ?_
  rotate_left
  · intro w'
    go_simp
    with_reducible rfl
  rotate_left
  · simp only [Act.put, List.setIfInBounds_toArray, List.set_cons_zero, List.set_cons_succ, i64_w, i32_w]
    rfl
  refine pure_ (i := 1) (N := some 8) (v := ?_) (a' := ?_) #[true, true, false, false, false, false, false, false, false, false, false, false, false] rfl rfl (by kernel_rfl) (fun _ _ _ h => h) (Or.inl ⟨by rfl, ?_⟩) ?_ ?_
  rotate_left
  · intro w'
    go_simp
    with_reducible rfl
  rotate_left
  · simp only [Act.put, List.setIfInBounds_toArray, List.set_cons_zero, List.set_cons_succ, i64_w, i32_w]
    rfl
  refine pure_ (i := 2) (N := some 9) (v := ?_) (a' := ?_) #[true, true, true, false, false, false, false, false, false, false, false, false, false] rfl rfl (by kernel_rfl) (fun _ _ _ h => h) (Or.inl ⟨by rfl, ?_⟩) ?_ ?_
  rotate_left
  · intro w'
    go_simp
    with_reducible rfl
  rotate_left
  · simp only [Act.put, List.setIfInBounds_toArray, List.set_cons_zero, List.set_cons_succ, i64_w, i32_w]
    rfl
  refine pure_ (i := 4) (N := some 11) (v := ?_) (a' := ?_) #[true, true, true, false, true, false, false, false, false, false, false, false, false] rfl rfl (by kernel_rfl) (fun _ _ _ h => h) (Or.inl ⟨by rfl, ?_⟩) ?_ ?_
  rotate_left
  · intro w'
    go_simp
    with_reducible rfl
  rotate_left
  · simp only [Act.put, List.setIfInBounds_toArray, List.set_cons_zero, List.set_cons_succ, i64_w, i32_w]
    rfl
  refine pure_ (i := 6) (N := some 13) (v := ?_) (a' := ?_) #[true, true, true, false, true, false, true, false, false, false, false, false, false] rfl rfl (by kernel_rfl) (fun _ _ _ h => h) (Or.inl ⟨by rfl, ?_⟩) ?_ ?_
  rotate_left
  · intro w'
    go_simp
    with_reducible rfl
  rotate_left
  · simp only [Act.put, List.setIfInBounds_toArray, List.set_cons_zero, List.set_cons_succ, i64_w, i32_w]
    rfl
  refine take_ (i := 3) (N := some 10) (v := ?_) (a' := ?_) #[true, true, true, true, true, false, true, false, false, false, false, false, false] rfl rfl (by kernel_rfl) (fun _ _ _ h => h) (Or.inl ⟨by rfl, ?_⟩) hHeld ?_ ?_
  rotate_left
  · rintro w' ⟨s0, s1⟩
    go_simp
    with_reducible rfl
  rotate_left
  · simp only [Act.put, List.setIfInBounds_toArray, List.set_cons_zero, List.set_cons_succ, i64_w, i32_w]
    rfl
  refine take_ (i := 7) (N := some 14) (v := ?_) (a' := ?_) #[true, true, true, true, true, false, true, true, false, false, false, false, false] rfl rfl (by kernel_rfl) (fun _ _ _ h => h) (Or.inl ⟨by rfl, ?_⟩) hHeld ?_ ?_
  rotate_left
  · rintro w' ⟨s0, s1⟩
    go_simp
    with_reducible rfl
  rotate_left
  · simp only [Act.put, List.setIfInBounds_toArray, List.set_cons_zero, List.set_cons_succ, i64_w, i32_w]
    rfl
  refine one_ (i := 5) (N := some 12) #[true, true, true, true, true, true, true, true, false, false, false, false, false] rfl rfl (by kernel_rfl) (by decide) (fun K hK => ?_)
  refine goes_ Try.func67 (by kernel_rfl) rfl #[.pointer (some ⟨gx, 0, none⟩)] (by rfl) rfl rfl (by simp only [List.map_toArray, List.map_cons, List.map_nil]; rfl) ?_
  with_reducible refine (ylast_calls HXD.out).mono ?_
  rintro e_ w' ⟨rfl, ⟨n5, rfl⟩⟩
  refine ⟨_, rfl, ?_⟩
  refine hK.out _ _ ⟨pw_cell_below (pw_below_drewN (Below.refl _ _) _) hHeld.1, pw_cell_below (pw_below_drewN (Below.refl _ _) _) hHeld.2⟩ (fun hHeld => ?_)
  clear hK K
  refine norm_ (a' := ?_) ?_ ?_
  rotate_left
  · show Act.put _ (some 12) _ = _
    simp only [Act.put, List.setIfInBounds_toArray, List.set_cons_zero, List.set_cons_succ, i64_w, i32_w]
    rfl
  refine one_ (i := 8) (N := some 15) #[true, true, true, true, true, true, true, true, true, false, false, false, false] rfl rfl (by kernel_rfl) (by decide) (fun K hK => ?_)
  refine goes_ Try.func34 (by kernel_rfl) rfl #[.int .i64 i0, .int .i64 6] (by rfl) rfl rfl (by simp only [List.map_toArray, List.map_cons, List.map_nil]; rfl) ?_
  with_reducible refine (within_calls i0 6 _ (by omega) (by omega)).mono ?_
  rintro e_ w' ⟨v, rfl, ⟨n8, rfl⟩, hv0, hv1⟩
  refine ⟨_, rfl, ?_⟩
  refine hK.out _ _ ⟨pw_cell_below (pw_below_drewN (Below.refl _ _) _) hHeld.1, pw_cell_below (pw_below_drewN (Below.refl _ _) _) hHeld.2⟩ (fun hHeld => ?_)
  clear hK K
  refine norm_ (a' := ?_) ?_ ?_
  rotate_left
  · show Act.put _ (some 15) _ = _
    simp only [Act.put, List.setIfInBounds_toArray, List.set_cons_zero, List.set_cons_succ, i64_w, i32_w]
    rfl
  refine pure_ (i := 9) (N := some 16) (v := ?_) (a' := ?_) #[true, true, true, true, true, true, true, true, true, true, false, false, false] rfl rfl (by kernel_rfl) (fun _ _ _ h => h) (Or.inl ⟨by rfl, ?_⟩) ?_ ?_
  rotate_left
  · intro w'
    go_simp
    with_reducible rfl
  rotate_left
  · simp only [Act.put, List.setIfInBounds_toArray, List.set_cons_zero, List.set_cons_succ, i64_w, i32_w]
    rfl
  refine pure_ (i := 10) (N := some 17) (v := ?_) (a' := ?_) #[true, true, true, true, true, true, true, true, true, true, true, false, false] rfl rfl (by kernel_rfl) (fun _ _ _ h => h) (Or.inl ⟨by rfl, ?_⟩) ?_ ?_
  rotate_left
  · intro w'
    go_simp
    with_reducible rfl
  rotate_left
  · simp only [Act.put, List.setIfInBounds_toArray, List.set_cons_zero, List.set_cons_succ, i64_w, i32_w]
    rfl
  refine pure_ (i := 11) (N := some 18) (v := ?_) (a' := ?_) #[true, true, true, true, true, true, true, true, true, true, true, true, false] rfl rfl (by kernel_rfl) (fun _ _ _ h => h) (Or.inl ⟨by rfl, ?_⟩) ?_ ?_
  rotate_left
  · intro w'
    go_simp
    with_reducible rfl
  rotate_left
  · simp only [Act.put, List.setIfInBounds_toArray, List.set_cons_zero, List.set_cons_succ, i64_w, i32_w]
    rfl
  refine last_ (i := 12) (N := none) #[true, true, true, true, true, true, true, true, true, true, true, true, true] rfl rfl (by kernel_rfl) (by decide) (fun K hK => ?_)
  have hs8 := blk_cell BC.out 1
  have hf8 := blk_frozen BC.out 1
  refine skip_ (w1 := ?_) (by rfl) rfl ?_ ?_
  rotate_left
  · go_simp
    rfl
  refine hK.out _ _ ?_
  clear hK K
  refine done_ (by kernel_rfl) ?_
  clear hHeld hs8 hf8
  have HS8 := Aside0.mk (show wd.heap.size = (wd.drewN (n5 + n8)).heap.size from rfl)
  obtain ⟨ix, hix⟩ : ∃ ix, (if b < wrap64 (b + (es.length : Int) - v) then wrap64 (b + (es.length : Int) - v) else b) = ix := ⟨_, rfl⟩
  rw [hix]
  clear hix
  generalize hw1 : World.setCell _ _ _ = w1
  have hbc1 : w1.heap[gc]? = some (.cells #[.bool p, .int .i64 ix, .int .i64 t0, .slice At n ct, .slice Ae m ce] 54 (0, 0)) := by rw [← hw1]; simpa using blk_set (blk_drewN BC.out (n5 + n8)) 1 (.int .i64 ix)
  have hbd1 : Below W.heap.size W w1 := by rw [← hw1]; exact (pw_below_drewN HBD.out (n5 + n8)).setCell (by rw [HGC.out]; exact Nat.le_refl _) _
  have hbr1 : w1.heap[gc + 1]? = some (.cells #[.bool false, .int .i64 0, .int .i64 0, .slice none 0 0, .slice none 0 0] 54 (0, 0)) := by rw [← hw1]; exact blk_far (blk_drewN BR.out (n5 + n8)) (by simp) _
  have HB1 := Aside0.mk hbd1
  have BC1 := Aside0.mk hbc1
  have BR1 := Aside0.mk hbr1
  have HX1 := Aside0.mk (HX.out.below hbd1)
  have hs1 := blk_cell hbc1 1
  have hs2 := blk_cell hbc1 2
  have hs3 := blk_cell hbc1 3
  have hs4 := blk_cell hbc1 4
  have hf2 := blk_frozen hbc1 2
  clear hw1 hbd1 hbc1 hbr1 BC BR HXD HXC HBD HBA HS8 hv0 hv1
  go_upto_region 4 with (first
    | (go_at_call 68; refine (yterm_calls (B := B) (F := F) (b := b) (ts := ts) (es := es) ?hI _).mono ?_; (case hI => (with_reducible repeat (first | exact HX1.out | refine IsY.drewN ?_ _ | refine IsY.drew ?_))); rintro e_ w' ⟨rfl, ⟨n_, rfl⟩⟩))
  obtain ⟨txv, htx⟩ : ∃ v, tx b ts ix = v := ⟨_, rfl⟩
  rw [htx]
  clear htx
  obtain ⟨at0, hat0⟩ : ∃ v, (if 1 < txv then txv else 1) = v := ⟨_, rfl⟩
  rw [hat0]
  clear hat0
  generalize hw2 : World.setCell _ _ _ = w2
  have hbc2 : w2.heap[gc]? = some (.cells #[.bool p, .int .i64 ix, .int .i64 txv, .slice At n ct, .slice Ae m ce] 54 (0, 0)) := by rw [← hw2]; simpa using blk_set (blk_drewN BC1.out n_) 2 (.int .i64 txv)
  have hbd2 : Below W.heap.size W w2 := by rw [← hw2]; exact (pw_below_drewN HB1.out n_).setCell (by rw [HGC.out]; exact Nat.le_refl _) _
  have hbr2 : w2.heap[gc + 1]? = some (.cells #[.bool false, .int .i64 0, .int .i64 0, .slice none 0 0, .slice none 0 0] 54 (0, 0)) := by rw [← hw2]; exact blk_far (blk_drewN BR1.out n_) (by simp) _
  have HB2 := Aside0.mk hbd2
  have BC2 := Aside0.mk hbc2
  have BR2 := Aside0.mk hbr2
  clear hw2 hbd2 hbc2 hbr2 BC1 BR1 HX1 HB1 hs1 hs2 hs3 hs4 hf2
  go_wp2
  go_loopw [5, 6] (fun v5 v6 wr => ∃ (k : Nat) (v : Int) (tl : List Int), v5 = .int .i64 v ∧ v6 = .int .i64 (k : Int) ∧ k ≤ n ∧ Aside0 (tl.length = n) ∧ Aside0 (Kd.R (Kd.int .i64) 3 wr B' ok (.slice At n ct) tl) ∧ Aside0 (Kept (fun q => some q = (Value.slice At n ct).ownBlock) W wr) ∧
      Aside0 (wr.heap[gc]? = some (.cells #[.bool p, .int .i64 ix, .int .i64 txv, .slice At n ct, .slice Ae m ce] 54 (0, 0))) ∧ Aside0 (wr.heap[gc + 1]? = some (.cells #[.bool false, .int .i64 0, .int .i64 0, .slice none 0 0, .slice none 0 0] 54 (0, 0))))
    (fun _ v6 _ => n - (intOf v6).toNat)
  case atStart => exact ⟨0, at0, l, rfl, rfl, Nat.zero_le _, HN, ⟨Kd.R_below HR.out HB2.out⟩, ⟨Kept.of_below HB2.out⟩, BC2, BR2⟩
  case round =>
    obtain ⟨k, v, tl, rfl, rfl, hk, HTL, HRR, HKR, BC, BR⟩ := hrel
    clear HB2 BC2 BR2
    have hs0 := blk_cell BC.out 0
    have hs1 := blk_cell BC.out 1
    have hs2 := blk_cell BC.out 2
    have hr0 := blk_cell BR.out 0
    have hg0 := blk_frozen BR.out 0
    have hr1 := blk_cell BR.out 1
    have hg1 := blk_frozen BR.out 1
    have hr2 := blk_cell BR.out 2
    have hg2 := blk_frozen BR.out 2
    have hr3 := blk_cell BR.out 3
    have hg3 := blk_frozen BR.out 3
    have hr4 := blk_cell BR.out 4
    have hg4 := blk_frozen BR.out 4
    have hs3 := blk_cell BC.out 3
    have hs4 := blk_cell BC.out 4
    have hf3 := blk_frozen BC.out 3
    have hf4 := blk_frozen BC.out 4
    by_cases hlk : k < n
    · have q1 := eq_true (show (k : Int) < (n : Int) by omega)
      have q0 := eq_true (show 0 ≤ (k : Int) by omega)
      obtain ⟨gt, cap, hfm, _, hgt, _⟩ := Kd.R_form HRR.out (by have := HTL.out; omega)
      rw [HTL.out] at hfm
      injection hfm with hA hn_ hc
      have HA := Aside0.mk hA
      have HRR2 := HRR.out
      have HKR2 := HKR.out
      have hbcs := BC.out
      rw [hA] at HRR2 HKR2 hbcs
      have BCS := Aside0.mk hbcs
      clear hbcs
      rw [hA] at hs3 ⊢
      have hrt := R_at HRR2 k (by have := HTL.out; omega)
      have hc1 := hrt.1
      have hc2 := hrt.2
      have HRS := Aside0.mk HRR2
      have HKS := Aside0.mk HKR2
      have hgcn : gt ≠ gc := fun e => by
        have h1 := (Kd.R_typed HRR2) gt (by simp [Value.ownBlock])
        obtain ⟨cells, h1⟩ := h1
        rw [e, BC.out] at h1
        injection h1 with h1
        injection h1 with _ h1 _
        cases h1
      have hgrn : gt ≠ gc + 1 := fun e => by
        have h1 := (Kd.R_typed HRR2) gt (by simp [Value.ownBlock])
        obtain ⟨cells, h1⟩ := h1
        rw [e, BR.out] at h1
        injection h1 with h1
        injection h1 with _ h1 _
        cases h1
      have HNC := Aside0.mk hgcn
      have HNR := Aside0.mk hgrn
      have hwk : wrap64 ((k : Int) + 1) = (k : Int) + 1 := by unfold wrap64; omega
      obtain ⟨tv, htv⟩ : ∃ tv, rd tl (k : Int) = tv := ⟨_, rfl⟩
      rw [htv] at hc1
      clear hrt HRR2 HKR2 hgcn hgrn htv hA hc hn_ hgt
      go_wp2_with (first
        | (go_at_call 34; refine (within_calls _ 2 _ (by omega) (by omega)).mono ?_; rintro e_ w' ⟨u, rfl, ⟨n_, rfl⟩, hv0, hv1⟩))
      case roundEnd =>
        refine ⟨⟨k + 1, wrap64 (v + u), tl.set k (wrap64 (v + u)), rfl, by first | rfl | (rw [hwk]; rfl), hlk, ⟨by rw [List.length_set]; exact HTL.out⟩, ⟨R_set (Kd.R_below HRS.out (pw_below_drewN (Below.refl _ _) n_)) k _⟩, ⟨?_⟩, ⟨blk_far (blk_drewN BCS.out n_) (fun e => HNC.out e.symm) _⟩, ⟨blk_far (blk_drewN BR.out n_) (fun e => HNR.out e.symm) _⟩⟩, ?_⟩
        · exact (HKS.out.below (pw_below_drewN (Below.refl _ _) n_)).trans (fun q hq => .inl hq) (kept_set _ _ _ (by simp [Value.ownBlock]))
        · exact meas_step hlk (by first | rfl | exact hwk)
    · have q1 := eq_false (show ¬ (k : Int) < (n : Int) by omega)
      have hcutT := cut_pre_ 24 3 Try.underlying24 info3 At n ct (min n m) (by omega) HCT.out
      have hcutE := fun (hnm : n ≤ m) => cut_pre_ 52 77 Try.underlying52 info77f Ae m ce n hnm HCE.out
      by_cases hnm : n < m
      · have d1 : decide ((n : Int) < (m : Int)) = true := decide_eq_true (by omega)
        have d2 : decide (n < m) = true := decide_eq_true hnm
        have hcE := hcutE (by omega)
        rw [show min n m = n by omega] at hcutT
        have HNM := Aside0.mk hnm
        clear hcutE hnm hlk hk
        go_wp2
        have hnc := own_ne (Kd.own_of_R HRR.out) BC.out (by decide)
        have hnr := own_ne (Kd.own_of_R HRR.out) BR.out (by decide)
        have hk : Kept (fun q => q = gc ∨ q = gc + 1) wr _ := (((((((kept_set _ ⟨gc, 4, none⟩ (.slice Ae n ce) (.inl rfl)).trans (fun q hq => .inl hq) (kept_set _ ⟨gc, 3, none⟩ (.slice At n ct) (.inl rfl))).trans (fun q hq => .inl hq) (kept_set _ ⟨gc + 1, 0, none⟩ (.bool p) (.inr rfl))).trans (fun q hq => .inl hq) (kept_set _ ⟨gc + 1, 1, none⟩ (.int .i64 ix) (.inr rfl))).trans (fun q hq => .inl hq) (kept_set _ ⟨gc + 1, 2, none⟩ (.int .i64 txv) (.inr rfl))).trans (fun q hq => .inl hq) (kept_set _ ⟨gc + 1, 3, none⟩ (.slice At n ct) (.inr rfl))).trans (fun q hq => .inl hq) (kept_set _ ⟨gc + 1, 4, none⟩ (.slice Ae n ce) (.inr rfl)))
        have hgc := HGC.out
        refine bodyPost_ret (results_cell_row rfl _ _ (gc + 1) 54 #[.bool p, .int .i64 ix, .int .i64 txv, .slice At n ct, .slice Ae n ce] (0, 0) _ rfl (blk_put_ (cs := #[.bool p, .int .i64 ix, .int .i64 txv, .slice At n ct, .slice none 0 0]) (cs' := #[.bool p, .int .i64 ix, .int .i64 txv, .slice At n ct, .slice Ae n ce]) (blk_put_ (cs := #[.bool p, .int .i64 ix, .int .i64 txv, .slice none 0 0, .slice none 0 0]) (cs' := #[.bool p, .int .i64 ix, .int .i64 txv, .slice At n ct, .slice none 0 0]) (blk_put_ (cs := #[.bool p, .int .i64 ix, .int .i64 0, .slice none 0 0, .slice none 0 0]) (cs' := #[.bool p, .int .i64 ix, .int .i64 txv, .slice none 0 0, .slice none 0 0]) (blk_put_ (cs := #[.bool p, .int .i64 0, .int .i64 0, .slice none 0 0, .slice none 0 0]) (cs' := #[.bool p, .int .i64 ix, .int .i64 0, .slice none 0 0, .slice none 0 0]) (blk_put_ (cs := #[.bool false, .int .i64 0, .int .i64 0, .slice none 0 0, .slice none 0 0]) (cs' := #[.bool p, .int .i64 0, .int .i64 0, .slice none 0 0, .slice none 0 0]) (blk_far (blk_far BR.out (by simp) _) (by simp) _) 0 _ rfl) 1 _ rfl) 2 _ rfl) 3 _ rfl) 4 _ rfl) Try.underlying54 rfl (by kernel_rfl)) rfl ?_
        exact NPost.mk (by have := HNM.out; omega) ix txv tl HTL.out (R_far_ (R_far_ (R_far_ (R_far_ (R_far_ (R_far_ (R_far_ HRR.out hnc _ _) hnc _ _) hnr _ _) hnr _ _) hnr _ _) hnr _ _) hnr _ _) (HKR.out.trans (fun q hq => .inr (by omega)) hk)
      · have d1 : decide ((n : Int) < (m : Int)) = false := decide_eq_false (by omega)
        have d2 : decide (n < m) = false := decide_eq_false hnm
        rw [show min n m = m by omega] at hcutT
        have HNM := Aside0.mk hnm
        clear hcutE hnm hlk hk
        go_wp2
        have hnc := own_ne (Kd.own_of_R HRR.out) BC.out (by decide)
        have hnr := own_ne (Kd.own_of_R HRR.out) BR.out (by decide)
        have hk : Kept (fun q => q = gc ∨ q = gc + 1) wr _ := ((((((kept_set _ ⟨gc, 3, none⟩ (.slice At m ct) (.inl rfl)).trans (fun q hq => .inl hq) (kept_set _ ⟨gc + 1, 0, none⟩ (.bool p) (.inr rfl))).trans (fun q hq => .inl hq) (kept_set _ ⟨gc + 1, 1, none⟩ (.int .i64 ix) (.inr rfl))).trans (fun q hq => .inl hq) (kept_set _ ⟨gc + 1, 2, none⟩ (.int .i64 txv) (.inr rfl))).trans (fun q hq => .inl hq) (kept_set _ ⟨gc + 1, 3, none⟩ (.slice At m ct) (.inr rfl))).trans (fun q hq => .inl hq) (kept_set _ ⟨gc + 1, 4, none⟩ (.slice Ae m ce) (.inr rfl)))
        have hgc := HGC.out
        refine bodyPost_ret (results_cell_row rfl _ _ (gc + 1) 54 #[.bool p, .int .i64 ix, .int .i64 txv, .slice At m ct, .slice Ae m ce] (0, 0) _ rfl (blk_put_ (cs := #[.bool p, .int .i64 ix, .int .i64 txv, .slice At m ct, .slice none 0 0]) (cs' := #[.bool p, .int .i64 ix, .int .i64 txv, .slice At m ct, .slice Ae m ce]) (blk_put_ (cs := #[.bool p, .int .i64 ix, .int .i64 txv, .slice none 0 0, .slice none 0 0]) (cs' := #[.bool p, .int .i64 ix, .int .i64 txv, .slice At m ct, .slice none 0 0]) (blk_put_ (cs := #[.bool p, .int .i64 ix, .int .i64 0, .slice none 0 0, .slice none 0 0]) (cs' := #[.bool p, .int .i64 ix, .int .i64 txv, .slice none 0 0, .slice none 0 0]) (blk_put_ (cs := #[.bool p, .int .i64 0, .int .i64 0, .slice none 0 0, .slice none 0 0]) (cs' := #[.bool p, .int .i64 ix, .int .i64 0, .slice none 0 0, .slice none 0 0]) (blk_put_ (cs := #[.bool false, .int .i64 0, .int .i64 0, .slice none 0 0, .slice none 0 0]) (cs' := #[.bool p, .int .i64 0, .int .i64 0, .slice none 0 0, .slice none 0 0]) (blk_far BR.out (by simp) _) 0 _ rfl) 1 _ rfl) 2 _ rfl) 3 _ rfl) 4 _ rfl) Try.underlying54 rfl (by kernel_rfl)) rfl ?_
        exact NPost.mk (by have := HNM.out; omega) ix txv tl HTL.out (R_far_ (R_far_ (R_far_ (R_far_ (R_far_ (R_far_ HRR.out hnc _ _) hnr _ _) hnr _ _) hnr _ _) hnr _ _) hnr _ _) (HKR.out.trans (fun q hq => .inr (by omega)) hk)

end Go.Proofs.Ytbomomaidglegaa.Hist
