/- The document's Entry, and Append of one entry. -/
import Derived.Test.YtbomomaidglegaaHistRef0
import Derived.Deep.LoopGhost
import Derived.WalkSpells
namespace Go.Proofs.Ytbomomaidglegaa.Hist
open Go Go.RowKit Go.Proofs.Ytbomomaidglegaa.XHist Go.Proofs.YtbomomaidglegaaW.PrintWords Go.Proofs.YtbomomaidglegaaW.PrintLast Go.Proofs.YtbomomaidglegaaW.PrintMore
set_option linter.unusedVariables false
set_option linter.unusedSimpArgs false


/-- An entry of the document's log. -/
def ex (b : Int) (es : List S77) (i : Int) : S77 := if b < i ∧ i ≤ b + (es.length : Int) then rd_T77 es (i - b - 1) else z77

set_option maxHeartbeats 8000000 in
set_option maxRecDepth 100000 in
theorem xentry_calls {B : Nat} {W : World} {g : Nat} {F : Nat → Prop} {b : Int} {ts : List Int} {es : List S77} (h : IsX B W g F b ts es) (i : Int) :
    Calls Try.prog 69 #[.pointer (some ⟨g, 0, none⟩), .int .i64 i] W fun e w' => e = .returned (.tuple #[.agg #[.int .i64 (ex b es i).f0, .int .i64 (ex b es i).f1, .int .i64 (ex b es i).f2, .string (ex b es i).f3, .slice none 0 0, .int .i64 (ex b es i).f5], .bool (decide (b < i ∧ i ≤ b + (es.length : Int)))]) ∧ Below W.heap.size W w' := by
  have hu77 := Try.underlying77
  have HH := Aside0.mk h
  obtain ⟨A1, c1, A2, c2, hb, _, _, _, _, hE, _, h0, h1⟩ := h
  have hcg : W.cell? ⟨g, 0, none⟩ = some (.int .i64 b) := (blk_cell hb 0).trans rfl
  have hgl := blk_lt hb
  have hgn : g ≠ W.heap.size := by omega
  by_cases c1' : b < i ∧ i ≤ b + (es.length : Int)
  · have d0 : decide (b < i ∧ i ≤ b + (es.length : Int)) = true := decide_eq_true c1'
    have d1 : decide (i ≤ b) = false := decide_eq_false (by omega)
    have d2 : decide (b + (es.length : Int) < i) = false := decide_eq_false (by omega)
    obtain ⟨j, hj⟩ : ∃ j : Nat, i - b - 1 = (j : Int) := ⟨(i - b - 1).toNat, by omega⟩
    have hjl : j < es.length := by omega
    have hjA : IntKind.i64.wrap (IntKind.i64.wrap (i - b) - 1) = (j : Int) := by rw [i64_w, i64_w]; unfold wrap64; omega
    have hjB : IntKind.i64.wrap (wrap64 (i - b) - 1) = (j : Int) := by rw [i64_w]; unfold wrap64; omega
    have hjC : wrap64 (wrap64 (i - b) - 1) = (j : Int) := by unfold wrap64; omega
    have hen : ex b es i = rd_T77 es (j : Int) := by unfold ex; rw [if_pos c1', hj]
    rw [hen, d0]
    obtain ⟨x, hx⟩ : ∃ x, rd_T77 es (j : Int) = x := ⟨_, rfl⟩
    have p1 : 0 ≤ (j : Int) := by omega
    have q1 : (j : Int) < (es.length : Int) := by omega
    obtain ⟨ad, rfl, h4, hy0, hy1, hy2, hy3, hy4, hy5⟩ := at_kp (Kd.R_reads' hE).2.2 (j : Int) p1 q1
    rw [Int.toNat_natCast] at hy0 hy1 hy2 hy3 hy4 hy5
    rw [hx] at hy0 hy1 hy2 hy3 hy5 ⊢
    have YR := Aside0.mk (And.intro hy0 (And.intro hy1 (And.intro hy2 (And.intro hy3 (And.intro hy4 hy5)))))
    have BGr := Aside0.mk hb
    replace p1 := eq_true p1
    replace q1 := eq_true q1
    clear hb hE c1' hen hj hx h4 hy0 hy1 hy2 hy3 hy4 hy5 d0
    go_enter Try.func69, Try.ntmps69
    go_wp2_with (first | (go_at_call 67; refine (xlast_calls (HH.out.alloc _)).mono ?_; rintro e w' ⟨rfl, ⟨n, rfl⟩⟩))
    obtain ⟨wa, hwa⟩ : ∃ wa, (W.alloc (.cells #[.int .i64 0, .int .i64 0, .int .i64 0, .string ⟨#[]⟩, .slice none 0 0, .int .i64 0] 77)).drewN n = wa := ⟨_, rfl⟩
    have hba : Below W.heap.size W wa := by rw [← hwa]; exact pw_below_drewN (below_alloc (Below.refl _ _) _) _
    have hbe : wa.heap[W.heap.size]? = some (.cells #[.int .i64 0, .int .i64 0, .int .i64 0, .string ⟨#[]⟩, .slice none 0 0, .int .i64 0] 77 (0, 0)) := by rw [← hwa]; exact heap_alloc_new _ _
    rw [hwa]
    obtain ⟨gb, hgb⟩ : ∃ gb, W.heap.size = gb := ⟨_, rfl⟩
    rw [hgb] at hbe ⊢
    have HBD := Aside0.mk (show Below W.heap.size W wa.drew from below_drew hba)
    have BE := Aside0.mk (show wa.drew.heap[gb]? = some (.cells #[.int .i64 0, .int .i64 0, .int .i64 0, .string ⟨#[]⟩, .slice none 0 0, .int .i64 0] 77 (0, 0)) from hbe)
    have BG := Aside0.mk (blk_below BGr.out HBD.out)
    have HY0 := Aside0.mk (pw_cell_below HBD.out YR.out.1)
    have HY1 := Aside0.mk (pw_cell_below HBD.out YR.out.2.1)
    have HY2 := Aside0.mk (pw_cell_below HBD.out YR.out.2.2.1)
    have HY3 := Aside0.mk (pw_cell_below HBD.out YR.out.2.2.2.1)
    have HY4 := Aside0.mk (pw_cell_below HBD.out YR.out.2.2.2.2.1)
    have HY5 := Aside0.mk (pw_cell_below HBD.out YR.out.2.2.2.2.2)
    clear hba hbe hwa BGr YR hcg
    refine start_ (n := 15) (S := fun w' => w'.cell? ⟨g, 0, none⟩ = some (Value.int .i64 b) ∧ w'.cell? ⟨g, 2, none⟩ = some (Value.slice (some ad) es.length c2) ∧ w'.cell? (ad.add (j * 6)) = some (Value.int .i64 x.f0) ∧ w'.cell? ⟨(ad.add (j * 6)).block, (ad.add (j * 6)).off + 1, none⟩ = some (Value.int .i64 x.f1) ∧ w'.cell? ⟨(ad.add (j * 6)).block, (ad.add (j * 6)).off + 2, none⟩ = some (Value.int .i64 x.f2) ∧ w'.cell? ⟨(ad.add (j * 6)).block, (ad.add (j * 6)).off + 3, none⟩ = some (Value.string x.f3) ∧ w'.cell? ⟨(ad.add (j * 6)).block, (ad.add (j * 6)).off + 4, none⟩ = some (Value.slice none 0 0) ∧ w'.cell? ⟨(ad.add (j * 6)).block, (ad.add (j * 6)).off + 5, none⟩ = some (Value.int .i64 x.f5)) (ds := [13]) #[false, false, false, false, false, false, false, false, false, false, false, false, false, false, false] (by kernel_rfl) rfl rfl ⟨(blk_cell BG.out 0).trans rfl, (blk_cell BG.out 2).trans rfl, HY0.out, HY1.out, HY2.out, HY3.out, HY4.out, HY5.out⟩ (fun hHeld => ?_)
    generalize wa.drew = wd at BE BG HBD HY0 HY1 HY2 HY3 HY4 HY5 hHeld ⊢
    refine pure_ (i := 0) (N := some 19) (v := ?_) (a' := ?_) #[true, false, false, false, false, false, false, false, false, false, false, false, false, false, false] rfl rfl (by kernel_rfl) (fun _ _ _ h => h) (Or.inl ⟨by rfl, ?_⟩) ?_ ?_
    rotate_left
    · intro w'
      go_simp
      with_reducible rfl
    rotate_left
    · simp only [Act.put, List.setIfInBounds_toArray, List.set_cons_zero, List.set_cons_succ, i64_w, i32_w]
      rfl
    refine pure_ (i := 1) (N := some 20) (v := ?_) (a' := ?_) #[true, true, false, false, false, false, false, false, false, false, false, false, false, false, false] rfl rfl (by kernel_rfl) (fun _ _ _ h => h) (Or.inl ⟨by rfl, ?_⟩) ?_ ?_
    rotate_left
    · intro w'
      go_simp
      with_reducible rfl
    rotate_left
    · simp only [Act.put, List.setIfInBounds_toArray, List.set_cons_zero, List.set_cons_succ, i64_w, i32_w]
      rfl
    refine pure_ (i := 2) (N := some 21) (v := ?_) (a' := ?_) #[true, true, true, false, false, false, false, false, false, false, false, false, false, false, false] rfl rfl (by kernel_rfl) (fun _ _ _ h => h) (Or.inl ⟨by rfl, ?_⟩) ?_ ?_
    rotate_left
    · intro w'
      go_simp
      with_reducible rfl
    rotate_left
    · simp only [Act.put, List.setIfInBounds_toArray, List.set_cons_zero, List.set_cons_succ, i64_w, i32_w]
      rfl
    refine pure_ (i := 4) (N := some 23) (v := ?_) (a' := ?_) #[true, true, true, false, true, false, false, false, false, false, false, false, false, false, false] rfl rfl (by kernel_rfl) (fun _ _ _ h => h) (Or.inl ⟨by rfl, ?_⟩) ?_ ?_
    rotate_left
    · intro w'
      go_simp
      with_reducible rfl
    rotate_left
    · simp only [Act.put, List.setIfInBounds_toArray, List.set_cons_zero, List.set_cons_succ, i64_w, i32_w]
      rfl
    refine pure_ (i := 5) (N := some 24) (v := ?_) (a' := ?_) #[true, true, true, false, true, true, false, false, false, false, false, false, false, false, false] rfl rfl (by kernel_rfl) (fun _ _ _ h => h) (Or.inl ⟨by rfl, ?_⟩) ?_ ?_
    rotate_left
    · intro w'
      go_simp
      with_reducible rfl
    rotate_left
    · simp only [Act.put, List.setIfInBounds_toArray, List.set_cons_zero, List.set_cons_succ, i64_w, i32_w]
      rfl
    refine pure_ (i := 6) (N := some 25) (v := ?_) (a' := ?_) #[true, true, true, false, true, true, true, false, false, false, false, false, false, false, false] rfl rfl (by kernel_rfl) (fun _ _ _ h => h) (Or.inl ⟨by rfl, ?_⟩) ?_ ?_
    rotate_left
    · intro w'
      go_simp
      with_reducible rfl
    rotate_left
    · simp only [Act.put, List.setIfInBounds_toArray, List.set_cons_zero, List.set_cons_succ, i64_w, i32_w]
      rfl
    refine pure_ (i := 7) (N := some 26) (v := ?_) (a' := ?_) #[true, true, true, false, true, true, true, true, false, false, false, false, false, false, false] rfl rfl (by kernel_rfl) (fun _ _ _ h => h) (Or.inl ⟨by rfl, ?_⟩) ?_ ?_
    rotate_left
    · intro w'
      go_simp
      with_reducible rfl
    rotate_left
    · simp only [Act.put, List.setIfInBounds_toArray, List.set_cons_zero, List.set_cons_succ, i64_w, i32_w]
      rfl
    refine take_ (i := 3) (N := some 22) (v := ?_) (a' := ?_) #[true, true, true, true, true, true, true, true, false, false, false, false, false, false, false] rfl rfl (by kernel_rfl) (fun _ _ _ h => h) (Or.inl ⟨by rfl, ?_⟩) hHeld ?_ ?_
    rotate_left
    · rintro w' ⟨s0, s1, s2, s3, s4, s5, s6, s7⟩
      go_simp
      with_reducible rfl
    rotate_left
    · simp only [Act.put, List.setIfInBounds_toArray, List.set_cons_zero, List.set_cons_succ, i64_w, i32_w]
      rfl
    refine take_ (i := 8) (N := some 27) (v := ?_) (a' := ?_) #[true, true, true, true, true, true, true, true, true, false, false, false, false, false, false] rfl rfl (by kernel_rfl) (fun _ _ _ h => h) (Or.inl ⟨by rfl, ?_⟩) hHeld ?_ ?_
    rotate_left
    · rintro w' ⟨s0, s1, s2, s3, s4, s5, s6, s7⟩
      go_simp
      with_reducible rfl
    rotate_left
    · simp only [Act.put, List.setIfInBounds_toArray, List.set_cons_zero, List.set_cons_succ, i64_w, i32_w]
      rfl
    refine pure_ (i := 9) (N := some 28) (v := ?_) (a' := ?_) #[true, true, true, true, true, true, true, true, true, true, false, false, false, false, false] rfl rfl (by kernel_rfl) (fun _ _ _ h => h) (Or.inl ⟨by rfl, ?_⟩) ?_ ?_
    rotate_left
    · intro w'
      go_simp
      with_reducible rfl
    rotate_left
    · simp only [Act.put, List.setIfInBounds_toArray, List.set_cons_zero, List.set_cons_succ, i64_w, i32_w]
      rfl
    refine pure_ (i := 10) (N := some 29) (v := ?_) (a' := ?_) #[true, true, true, true, true, true, true, true, true, true, true, false, false, false, false] rfl rfl (by kernel_rfl) (fun _ _ _ h => h) (Or.inl ⟨by rfl, ?_⟩) ?_ ?_
    rotate_left
    · intro w'
      go_simp
      with_reducible rfl
    rotate_left
    · simp only [Act.put, List.setIfInBounds_toArray, List.set_cons_zero, List.set_cons_succ, i64_w, i32_w]
      rfl
    refine pure_ (i := 11) (N := some 30) (v := ?_) (a' := ?_) #[true, true, true, true, true, true, true, true, true, true, true, true, false, false, false] rfl rfl (by kernel_rfl) (fun _ _ _ h => h) (Or.inl ⟨by rfl, ?_⟩) ?_ ?_
    rotate_left
    · intro w'
      go_simp
      with_reducible rfl
    rotate_left
    · simp only [Act.put, List.setIfInBounds_toArray, List.set_cons_zero, List.set_cons_succ, i64_w, i32_w]
      rfl
    refine take_ (i := 12) (N := some 31) (v := ?_) (a' := ?_) #[true, true, true, true, true, true, true, true, true, true, true, true, true, false, false] rfl rfl (by kernel_rfl) (fun _ _ _ h => h) (Or.inl ⟨by rfl, ?_⟩) hHeld ?_ ?_
    rotate_left
    · rintro w' ⟨s0, s1, s2, s3, s4, s5, s6, s7⟩
      go_simp
      with_reducible rfl
    rotate_left
    · simp only [Act.put, List.setIfInBounds_toArray, List.set_cons_zero, List.set_cons_succ, i64_w, i32_w]
      rfl
    refine last_ (i := 13) (N := none) #[true, true, true, true, true, true, true, true, true, true, true, true, true, true, false] rfl rfl (by kernel_rfl) (by decide) (fun K hK => ?_)
    have hs0 : wd.cell? ⟨gb, 0, none⟩ = some (Value.int .i64 0) := (blk_cell BE.out 0).trans rfl
    have hs1 : wd.cell? ⟨gb, 1, none⟩ = some (Value.int .i64 0) := (blk_cell BE.out 1).trans rfl
    have hs2 : wd.cell? ⟨gb, 2, none⟩ = some (Value.int .i64 0) := (blk_cell BE.out 2).trans rfl
    have hs3 : wd.cell? ⟨gb, 3, none⟩ = some (Value.string ⟨#[]⟩) := (blk_cell BE.out 3).trans rfl
    have hs4 : wd.cell? ⟨gb, 4, none⟩ = some (Value.slice none 0 0) := (blk_cell BE.out 4).trans rfl
    have hs5 : wd.cell? ⟨gb, 5, none⟩ = some (Value.int .i64 0) := (blk_cell BE.out 5).trans rfl
    have hfz0 := blk_frozen BE.out 0
    have hfz1 := blk_frozen BE.out 1
    have hfz2 := blk_frozen BE.out 2
    have hfz3 := blk_frozen BE.out 3
    have hfz4 := blk_frozen BE.out 4
    have hfz5 := blk_frozen BE.out 5
    refine skip_ (w1 := ?_) (by rfl) rfl ?_ ?_
    rotate_left
    · go_simp
      rfl
    refine hK.out _ _ ?_
    clear hK K
    refine pure_ (i := 14) (N := some 5) (v := ?_) (a' := ?_) #[true, true, true, true, true, true, true, true, true, true, true, true, true, true, true] rfl rfl (by kernel_rfl) (fun _ _ _ h => h) (Or.inl ⟨by rfl, ?_⟩) ?_ ?_
    rotate_left
    · intro w'
      go_simp
      with_reducible rfl
    rotate_left
    · simp only [Act.put, List.setIfInBounds_toArray, List.set_cons_zero, List.set_cons_succ, i64_w, i32_w]
      rfl
    refine done_ (by kernel_rfl) ?_
    have HBE := Aside0.mk (blk_put_ (cs := #[.int .i64 x.f0, .int .i64 x.f1, .int .i64 x.f2, .string x.f3, .slice none 0 0, .int .i64 0]) (cs' := #[.int .i64 x.f0, .int .i64 x.f1, .int .i64 x.f2, .string x.f3, .slice none 0 0, .int .i64 x.f5]) (blk_put_ (cs := #[.int .i64 x.f0, .int .i64 x.f1, .int .i64 x.f2, .string x.f3, .slice none 0 0, .int .i64 0]) (cs' := #[.int .i64 x.f0, .int .i64 x.f1, .int .i64 x.f2, .string x.f3, .slice none 0 0, .int .i64 0]) (blk_put_ (cs := #[.int .i64 x.f0, .int .i64 x.f1, .int .i64 x.f2, .string ⟨#[]⟩, .slice none 0 0, .int .i64 0]) (cs' := #[.int .i64 x.f0, .int .i64 x.f1, .int .i64 x.f2, .string x.f3, .slice none 0 0, .int .i64 0]) (blk_put_ (cs := #[.int .i64 x.f0, .int .i64 x.f1, .int .i64 0, .string ⟨#[]⟩, .slice none 0 0, .int .i64 0]) (cs' := #[.int .i64 x.f0, .int .i64 x.f1, .int .i64 x.f2, .string ⟨#[]⟩, .slice none 0 0, .int .i64 0]) (blk_put_ (cs := #[.int .i64 x.f0, .int .i64 0, .int .i64 0, .string ⟨#[]⟩, .slice none 0 0, .int .i64 0]) (cs' := #[.int .i64 x.f0, .int .i64 x.f1, .int .i64 0, .string ⟨#[]⟩, .slice none 0 0, .int .i64 0]) (blk_put_ (cs := #[.int .i64 0, .int .i64 0, .int .i64 0, .string ⟨#[]⟩, .slice none 0 0, .int .i64 0]) (cs' := #[.int .i64 x.f0, .int .i64 0, .int .i64 0, .string ⟨#[]⟩, .slice none 0 0, .int .i64 0]) BE.out 0 _ rfl) 1 _ rfl) 2 _ rfl) 3 _ rfl) 4 _ rfl) 5 _ rfl)
    go_wp2
    refine bodyPost_ret (results_ct rfl _ _ gb 77 #[.int .i64 x.f0, .int .i64 x.f1, .int .i64 x.f2, .string x.f3, .slice none 0 0, .int .i64 x.f5] (0, 0) _ rfl HBE.out Try.underlying77 rfl (by kernel_rfl)) rfl ?_
    exact ⟨rfl, (below_set (below_set (below_set (below_set (below_set (below_set HBD.out (by omega)) (by omega)) (by omega)) (by omega)) (by omega)) (by omega))⟩
  · have d0 : decide (b < i ∧ i ≤ b + (es.length : Int)) = false := decide_eq_false c1'
    have hen : ex b es i = z77 := by unfold ex; rw [if_neg c1']
    rw [hen, d0]
    clear d0 hen hE hb
    by_cases c2' : i ≤ b
    · have d1 : decide (i ≤ b) = true := decide_eq_true c2'
      clear c1' c2'
      go_enter Try.func69, Try.ntmps69
      go_wp2
      have BE0 : (W.alloc (.cells #[.int .i64 0, .int .i64 0, .int .i64 0, .string ⟨#[]⟩, .slice none 0 0, .int .i64 0] 77)).heap[W.heap.size]? = some (.cells #[.int .i64 0, .int .i64 0, .int .i64 0, .string ⟨#[]⟩, .slice none 0 0, .int .i64 0] 77 (0, 0)) := heap_alloc_new _ _
      have HB3 : Below W.heap.size W (W.alloc (.cells #[.int .i64 0, .int .i64 0, .int .i64 0, .string ⟨#[]⟩, .slice none 0 0, .int .i64 0] 77)) := below_alloc (Below.refl _ _) _
      refine bodyPost_ret (results_ct rfl _ _ W.heap.size 77 #[.int .i64 0, .int .i64 0, .int .i64 0, .string ⟨#[]⟩, .slice none 0 0, .int .i64 0] (0, 0) _ rfl BE0 Try.underlying77 rfl (by kernel_rfl)) rfl ?_
      exact ⟨rfl, HB3⟩
    · have d1 : decide (i ≤ b) = false := decide_eq_false c2'
      have d2 : decide (b + (es.length : Int) < i) = true := decide_eq_true (by omega)
      clear c1' c2'
      go_enter Try.func69, Try.ntmps69
      go_wp2_with (first | (go_at_call 67; refine (xlast_calls (HH.out.alloc _)).mono ?_; rintro e w' ⟨rfl, ⟨n, rfl⟩⟩))
      have BE0 : ((W.alloc (.cells #[.int .i64 0, .int .i64 0, .int .i64 0, .string ⟨#[]⟩, .slice none 0 0, .int .i64 0] 77)).drewN n).heap[W.heap.size]? = some (.cells #[.int .i64 0, .int .i64 0, .int .i64 0, .string ⟨#[]⟩, .slice none 0 0, .int .i64 0] 77 (0, 0)) := heap_alloc_new _ _
      have HB3 : Below W.heap.size W ((W.alloc (.cells #[.int .i64 0, .int .i64 0, .int .i64 0, .string ⟨#[]⟩, .slice none 0 0, .int .i64 0] 77)).drewN n) := pw_below_drewN (below_alloc (Below.refl _ _) _) _
      generalize (W.alloc (.cells #[.int .i64 0, .int .i64 0, .int .i64 0, .string ⟨#[]⟩, .slice none 0 0, .int .i64 0] 77)).drewN n = w3 at BE0 HB3 ⊢
      have HBE := (blk_put_ (cs := #[.int .i64 0, .int .i64 0, .int .i64 0, .string ⟨#[]⟩, .slice none 0 0, .int .i64 0]) (cs' := #[.int .i64 0, .int .i64 0, .int .i64 0, .string ⟨#[]⟩, .slice none 0 0, .int .i64 0]) (blk_put_ (cs := #[.int .i64 0, .int .i64 0, .int .i64 0, .string ⟨#[]⟩, .slice none 0 0, .int .i64 0]) (cs' := #[.int .i64 0, .int .i64 0, .int .i64 0, .string ⟨#[]⟩, .slice none 0 0, .int .i64 0]) (blk_put_ (cs := #[.int .i64 0, .int .i64 0, .int .i64 0, .string ⟨#[]⟩, .slice none 0 0, .int .i64 0]) (cs' := #[.int .i64 0, .int .i64 0, .int .i64 0, .string ⟨#[]⟩, .slice none 0 0, .int .i64 0]) (blk_put_ (cs := #[.int .i64 0, .int .i64 0, .int .i64 0, .string ⟨#[]⟩, .slice none 0 0, .int .i64 0]) (cs' := #[.int .i64 0, .int .i64 0, .int .i64 0, .string ⟨#[]⟩, .slice none 0 0, .int .i64 0]) (blk_put_ (cs := #[.int .i64 0, .int .i64 0, .int .i64 0, .string ⟨#[]⟩, .slice none 0 0, .int .i64 0]) (cs' := #[.int .i64 0, .int .i64 0, .int .i64 0, .string ⟨#[]⟩, .slice none 0 0, .int .i64 0]) (blk_put_ (cs := #[.int .i64 0, .int .i64 0, .int .i64 0, .string ⟨#[]⟩, .slice none 0 0, .int .i64 0]) (cs' := #[.int .i64 0, .int .i64 0, .int .i64 0, .string ⟨#[]⟩, .slice none 0 0, .int .i64 0]) BE0 0 _ rfl) 1 _ rfl) 2 _ rfl) 3 _ rfl) 4 _ rfl) 5 _ rfl)
      refine bodyPost_ret (results_ct rfl _ _ W.heap.size 77 #[.int .i64 0, .int .i64 0, .int .i64 0, .string ⟨#[]⟩, .slice none 0 0, .int .i64 0] (0, 0) _ rfl HBE Try.underlying77 rfl (by kernel_rfl)) rfl ?_
      exact ⟨rfl, (below_set (below_set (below_set (below_set (below_set (below_set HB3 (Nat.le_refl _)) (Nat.le_refl _)) (Nat.le_refl _)) (Nat.le_refl _)) (Nat.le_refl _)) (Nat.le_refl _))⟩

set_option maxHeartbeats 8000000 in
set_option maxRecDepth 100000 in
theorem xappend_calls {B : Nat} {W : World} {g : Nat} {F : Nat → Prop} {b : Int} {ts : List Int} {es : List S77} (h : IsX B W g F b ts es) (hBW : B ≤ W.heap.size) (t : Int) (ad : Addr) (c : Nat) (x : S77)
    (hE : ∀ W', Kept F W W' → Kd.C kp W' (some ad) 1 [x]) (h1 : 1 ≤ t) (h2 : tx b ts (b + (es.length : Int)) ≤ t) (h3 : b + (es.length : Int) + 1 ≤ 64) :
    Calls Try.prog 48 #[.pointer (some ⟨g, 0, none⟩), .int .i64 t, .slice (some ad) 1 c] W fun e w' => ∃ (F' : Nat → Prop), e = .returned (.tuple #[.int .i64 (b + (es.length : Int) + 1), .int .i64 0]) ∧
      IsX B w' g F' b (ts ++ [t]) (es ++ [x]) ∧ (∀ q, F' q → F q ∨ W.heap.size ≤ q) ∧ Kept F W w' := by
  obtain ⟨m, hmm⟩ : ∃ m, tx b ts (b + (es.length : Int)) = m := ⟨_, rfl⟩
  rw [hmm] at h2
  have HH := Aside0.mk h
  have HE := Aside0.mk hE
  have HMM := Aside0.mk hmm
  have HBH0 := Aside0.mk hBW
  have hb0 : 0 ≤ b := by obtain ⟨_, _, _, _, _, _, _, _, _, _, _, h0, _⟩ := h; exact h0
  have d1 : decide (t < 1) = false := decide_eq_false (by omega)
  have d2 : decide (t < m) = false := decide_eq_false (by omega)
  have d3 : decide (64 < b + (es.length : Int) + 1) = false := decide_eq_false (by omega)
  have hu77 := Try.underlying77
  clear h hE hmm hBW
  go_enter Try.func48, Try.ntmps48
  go_wp2_with (first
    | (go_at_call 67; refine (xlast_calls (B := B) (F := F) (b := b) (ts := ts) (es := es) ?hI).mono ?_; (case hI => (with_reducible repeat (first | exact HH.out | refine IsX.drewN ?_ _ | refine IsX.drew ?_))); rintro e w' ⟨rfl, ⟨n, rfl⟩⟩)
    | (go_at_call 68; refine (xterm_calls (B := B) (F := F) (b := b) (ts := ts) (es := es) ?hI _).mono ?_; (case hI => (with_reducible repeat (first | exact HH.out | refine IsX.drewN ?_ _ | refine IsX.drew ?_))); rintro e w' ⟨rfl, ⟨n, rfl⟩⟩; rw [HMM.out]))
  clear d1 d2 d3
  go_loopw [8] (fun v8 wr => ∃ (k : Nat), v8 = .int .i64 (k : Int) ∧ k ≤ 1 ∧ Aside0 (k = 0 → Drawn0 W wr) ∧ Aside0 (k = 1 → ∃ F', IsX B wr g F' b (ts ++ [t]) (es ++ [x]) ∧ (∀ q, F' q → F q ∨ W.heap.size ≤ q) ∧ Kept F W wr))
    (fun v8 _ => 1 - (intOf v8).toNat)
  case atStart => exact ⟨0, rfl, by omega, ⟨fun _ => (by repeat (first | exact Drawn0.refl _ | apply Drawn0.step))⟩, ⟨fun h => by omega⟩⟩
  case round =>
    obtain ⟨k, rfl, hk1, HD0, HD1⟩ := hrel
    by_cases hk : k = 0
    · have hd := HD0.out hk
      obtain ⟨A1, c1, A2, c2, hb, hg, hF, hL, hR, hR2, hl, _, _⟩ := HH.out.below (drawn_below hd)
      have HHD := Aside0.mk hd
      have HK0 := Aside0.mk hk
      have BGr := Aside0.mk hb
      have HGr := Aside0.mk (blk_lt hb)
      have HGF := Aside0.mk hg
      have HFB := Aside0.mk hF
      have HFL := Aside0.mk hL
      have HRT := Aside0.mk hR
      have HRE0 := Aside0.mk hR2
      have HLL := Aside0.mk hl
      have HBS := Aside0.mk (show B ≤ wr.heap.size from Nat.le_trans HBH0.out hd.below.size)
      have HTLn := Aside0.mk (show ts.length ≤ 64 by omega)
      have HEL := Aside0.mk (show es.length ≤ 64 by omega)
      have hcr : wr.cell? ⟨g, 1, none⟩ = some (.slice A1 ts.length c1) := (blk_cell hb 1).trans rfl
      have q1 := eq_true (show (k : Int) < 1 by omega)
      have q2 := decide_eq_true (show (k : Int) < 1 by omega)
      have q3 := eq_true (show k < 1 by omega)
      have q4 := decide_eq_true (show k < 1 by omega)
      have q5 := eq_true (show 0 ≤ (k : Int) by omega)
      clear hb hg hF hL hR hR2 hl hk hd
      go_wp2_with (first
        | ((with_reducible refine gate_builtin (b := .append) (xs := #[.tmp 35, .tmp 37]) rfl ?_); (try (refine gate_guard (by rfl) ?_; dsimp only)); at_builtin; refine Kd.R_append (Kd.int .i64) (w0 := wr) B rfl (.tmp 35) (.tmp 37) 24 3 (.int .i64 0) 8 rfl Try.underlying24 info3 rfl (by decide) (by decide) (.slice A1 ts.length c1) ts t [.int .i64 t] (fun q => (F q ∨ wr.heap.size ≤ q) ∧ q ≠ g) (fun _ => False) rfl rfl ?aP (fun _ hk => hk.elim) ?aF ?aO (Below.refl _ _) ?aS ?aL ?_; (case aP => rfl); (case aF => exact fun q hq => ⟨.inr hq, fun he => by have := HGr.out; omega⟩); (case aO => exact Kd.R_mono HRT.out (fun q hq => ⟨.inl hq.1, hq.2⟩)); (case aS => exact HBS.out); (case aL => have := HTLn.out; omega); intro v1 w2 ho_ hb_ hg_ hat_; obtain ⟨At, ct, rfl⟩ := Kd.R_slice ho_; have HO2 := Aside0.mk ho_; have HG2 := Aside0.mk hg_; have hbg2 := blk_grown BGr.out hg_ (Kd.R_ne HRT.out BGr.out (by decide)); have BG2 := Aside0.mk hbg2; have hs1_ : w2.cell? ⟨g, 1, none⟩ = some (Value.slice A1 ts.length c1) := (blk_cell hbg2 1).trans rfl; have hf1_ := blk_frozen hbg2 1; clear ho_ hb_ hg_ hat_ hbg2)
        | go_in)
      have hg2 := HG2.out
      have hle : (ts ++ [t]).length = ts.length + 1 := by rw [List.length_append]; rfl
      have HO2' := HO2.out
      rw [hle] at HO2'
      have hov : ∀ q, q ∈ 77 :: kp.E → q ≠ 3 := by intro q hq; have hq' : q ∈ [77] := hq; simp at hq'; omega
      have hRE2 := Kd.R_over' HRE0.out (Kd.R_typed HRT.out) hov hg2
      have hk2 : Kept F W w2 := (Kept.of_below HHD.out.below).trans (fun q hq => .inl hq) (kept_grown hg2 (fun q hq => (HRT.out.1 q hq).1))
      generalize hw3 : World.setCell w2 ⟨g, 1, none⟩ _ = w3
      have hb3 : w3.heap[g]? = some (.cells #[.int .i64 b, .slice At (ts.length + 1) ct, .slice A2 es.length c2] 67 (0, 0)) := by rw [← hw3]; simpa using blk_set BG2.out 1 (.slice At (ts.length + 1) ct)
      have hfr : ∀ q, q ≠ g → w3.heap[q]? = w2.heap[q]? := fun q hq => by rw [← hw3]; exact Below.heap_setCell w2 _ _ q hq
      have hsz3 : w3.heap.size = w2.heap.size := by rw [← hw3]; simp [World.setCell]
      have hk3 : Kept F W w3 := by rw [← hw3]; exact hk2.trans (fun q hq => .inl hq) (kept_set w2 _ _ HGF.out)
      have HRT3 := Aside0.mk (Kd.R_step HO2' (fun q hq _ => hfr q hq.2) : Kd.R (Kd.int .i64) 3 w3 B (fun q => (F q ∨ wr.heap.size ≤ q) ∧ q ≠ g) (.slice At (ts.length + 1) ct) (ts ++ [t]))
      have HRE3 := Aside0.mk (Kd.R_step hRE2 (fun q hq _ => hfr q hq.2) : Kd.R kp 77 w3 B (fun q => F q ∧ q ≠ g) (.slice A2 es.length c2) es)
      have hcl := HE.out w3 hk3
      obtain ⟨ad', hade, h4, hy0, hy1, hy2, hy3, hy4, hy5⟩ := at_kp hcl (k : Int) (by omega) (by have := HK0.out; omega)
      have hrx : rd_T77 [x] (k : Int) = x := by rw [HK0.out]; rfl
      injection hade with hade
      subst hade
      rw [hrx] at h4 hy0 hy1 hy2 hy3 hy5
      rw [Int.toNat_natCast] at hy0 hy1 hy2 hy3 hy4 hy5
      have HX4 := Aside0.mk h4
      have HKD := Aside0.mk hk3
      have HBD := Aside0.mk (show Below w3.heap.size w3 w3.drew from below_drew (Below.refl _ _))
      have HRE := Aside0.mk (Kd.R_below HRE3.out HBD.out)
      have HRT4 := Aside0.mk (Kd.R_below HRT3.out HBD.out)
      have BG := Aside0.mk (blk_below hb3 HBD.out)
      have HY0 := Aside0.mk (pw_cell_below HBD.out hy0)
      have HY1 := Aside0.mk (pw_cell_below HBD.out hy1)
      have HY2 := Aside0.mk (pw_cell_below HBD.out hy2)
      have HY3 := Aside0.mk (pw_cell_below HBD.out hy3)
      have HY4 := Aside0.mk (pw_cell_below HBD.out hy4)
      have HY5 := Aside0.mk (pw_cell_below HBD.out hy5)
      have HS0 := Aside0.mk (show wr.heap.size ≤ w3.drew.heap.size by rw [show w3.drew.heap.size = w3.heap.size from rfl, hsz3]; exact hg2.size)
      have HGL := HGr
      have HBH := HBS
      clear hg2 HO2' hRE2 hk2 hw3 hb3 hfr hsz3 hk3 hcl h4 hy0 hy1 hy2 hy3 hy4 hy5 hrx hle hov hcr hs1_ hf1_
      refine start_ (n := 14) (S := fun w' => w'.cell? ⟨g, 2, none⟩ = some (Value.slice A2 es.length c2) ∧ w'.cell? (ad.add (k * 6)) = some (Value.int .i64 x.f0) ∧ w'.cell? ⟨(ad.add (k * 6)).block, (ad.add (k * 6)).off + 1, none⟩ = some (Value.int .i64 x.f1) ∧ w'.cell? ⟨(ad.add (k * 6)).block, (ad.add (k * 6)).off + 2, none⟩ = some (Value.int .i64 x.f2) ∧ w'.cell? ⟨(ad.add (k * 6)).block, (ad.add (k * 6)).off + 3, none⟩ = some (Value.string x.f3) ∧ w'.cell? ⟨(ad.add (k * 6)).block, (ad.add (k * 6)).off + 4, none⟩ = some (Value.slice none 0 0) ∧ w'.cell? ⟨(ad.add (k * 6)).block, (ad.add (k * 6)).off + 5, none⟩ = some (Value.int .i64 x.f5)) (ds := [10, 13]) #[false, false, false, false, false, false, false, false, false, false, false, false, false, false] (by kernel_rfl) rfl rfl ⟨(blk_cell BG.out 2).trans rfl, HY0.out, HY1.out, HY2.out, HY3.out, HY4.out, HY5.out⟩ (fun hHeld => ?_)
      generalize w3.drew = wd at HBD HRE HRT4 BG HY0 HY1 HY2 HY3 HY4 HY5 HS0 hHeld ⊢
      refine pure_ (i := 0) (N := some 41) (v := ?_) (a' := ?_) #[true, false, false, false, false, false, false, false, false, false, false, false, false, false] rfl rfl (by kernel_rfl) (fun _ _ _ h => h) (Or.inl ⟨by rfl, ?_⟩) ?_ ?_
      rotate_left
      · intro w'
        go_simp
        with_reducible rfl
      rotate_left
      · simp only [Act.put, List.setIfInBounds_toArray, List.set_cons_zero, List.set_cons_succ, i64_w, i32_w]
        rfl
      refine pure_ (i := 1) (N := some 42) (v := ?_) (a' := ?_) #[true, true, false, false, false, false, false, false, false, false, false, false, false, false] rfl rfl (by kernel_rfl) (fun _ _ _ h => h) (Or.inl ⟨by rfl, ?_⟩) ?_ ?_
      rotate_left
      · intro w'
        go_simp
        with_reducible rfl
      rotate_left
      · simp only [Act.put, List.setIfInBounds_toArray, List.set_cons_zero, List.set_cons_succ, i64_w, i32_w]
        rfl
      refine pure_ (i := 2) (N := some 43) (v := ?_) (a' := ?_) #[true, true, true, false, false, false, false, false, false, false, false, false, false, false] rfl rfl (by kernel_rfl) (fun _ _ _ h => h) (Or.inl ⟨by rfl, ?_⟩) ?_ ?_
      rotate_left
      · intro w'
        go_simp
        with_reducible rfl
      rotate_left
      · simp only [Act.put, List.setIfInBounds_toArray, List.set_cons_zero, List.set_cons_succ, i64_w, i32_w]
        rfl
      refine pure_ (i := 3) (N := some 44) (v := ?_) (a' := ?_) #[true, true, true, true, false, false, false, false, false, false, false, false, false, false] rfl rfl (by kernel_rfl) (fun _ _ _ h => h) (Or.inl ⟨by rfl, ?_⟩) ?_ ?_
      rotate_left
      · intro w'
        go_simp
        with_reducible rfl
      rotate_left
      · simp only [Act.put, List.setIfInBounds_toArray, List.set_cons_zero, List.set_cons_succ, i64_w, i32_w]
        rfl
      refine pure_ (i := 5) (N := some 46) (v := ?_) (a' := ?_) #[true, true, true, true, false, true, false, false, false, false, false, false, false, false] rfl rfl (by kernel_rfl) (fun _ _ _ h => h) (Or.inl ⟨by rfl, ?_⟩) ?_ ?_
      rotate_left
      · intro w'
        go_simp
        with_reducible rfl
      rotate_left
      · simp only [Act.put, List.setIfInBounds_toArray, List.set_cons_zero, List.set_cons_succ, i64_w, i32_w]
        rfl
      refine pure_ (i := 6) (N := some 47) (v := ?_) (a' := ?_) #[true, true, true, true, false, true, true, false, false, false, false, false, false, false] rfl rfl (by kernel_rfl) (fun _ _ _ h => h) (Or.inl ⟨by rfl, ?_⟩) ?_ ?_
      rotate_left
      · intro w'
        go_simp
        with_reducible rfl
      rotate_left
      · simp only [Act.put, List.setIfInBounds_toArray, List.set_cons_zero, List.set_cons_succ, i64_w, i32_w]
        rfl
      refine pure_ (i := 7) (N := some 48) (v := ?_) (a' := ?_) #[true, true, true, true, false, true, true, true, false, false, false, false, false, false] rfl rfl (by kernel_rfl) (fun _ _ _ h => h) (Or.inl ⟨by rfl, ?_⟩) ?_ ?_
      rotate_left
      · intro w'
        go_simp
        with_reducible rfl
      rotate_left
      · simp only [Act.put, List.setIfInBounds_toArray, List.set_cons_zero, List.set_cons_succ, i64_w, i32_w]
        rfl
      refine take_ (i := 4) (N := some 45) (v := ?_) (a' := ?_) #[true, true, true, true, true, true, true, true, false, false, false, false, false, false] rfl rfl (by kernel_rfl) (fun _ _ _ h => h) (Or.inl ⟨by rfl, ?_⟩) hHeld ?_ ?_
      rotate_left
      · rintro w' ⟨s0, s1, s2, s3, s4, s5, s6⟩
        go_simp
        with_reducible rfl
      rotate_left
      · simp only [Act.put, List.setIfInBounds_toArray, List.set_cons_zero, List.set_cons_succ, i64_w, i32_w]
        rfl
      refine take_ (i := 8) (N := some 49) (v := ?_) (a' := ?_) #[true, true, true, true, true, true, true, true, true, false, false, false, false, false] rfl rfl (by kernel_rfl) (fun _ _ _ h => h) (Or.inl ⟨by rfl, ?_⟩) hHeld ?_ ?_
      rotate_left
      · rintro w' ⟨s0, s1, s2, s3, s4, s5, s6⟩
        go_simp
        with_reducible rfl
      rotate_left
      · simp only [Act.put, List.setIfInBounds_toArray, List.set_cons_zero, List.set_cons_succ, i64_w, i32_w]
        rfl
      refine one_ (i := 9) (N := some 50) #[true, true, true, true, true, true, true, true, true, true, false, false, false, false] rfl rfl (by kernel_rfl) (by decide) (fun K hK => ?_)
      refine value_ (w1 := ?_) (v := ?_) (by rfl) rfl ?_ ?_
      rotate_left 2
      · go_simp
        constructor
        · rfl
        · rfl
      refine hK.out _ _ ⟨pw_cell_below (below_alloc (Below.refl _ _) _) (hHeld.1), pw_cell_below (below_alloc (Below.refl _ _) _) (hHeld.2.1), pw_cell_below (below_alloc (Below.refl _ _) _) (hHeld.2.2.1), pw_cell_below (below_alloc (Below.refl _ _) _) (hHeld.2.2.2.1), pw_cell_below (below_alloc (Below.refl _ _) _) (hHeld.2.2.2.2.1), pw_cell_below (below_alloc (Below.refl _ _) _) (hHeld.2.2.2.2.2.1), pw_cell_below (below_alloc (Below.refl _ _) _) (hHeld.2.2.2.2.2.2)⟩ (fun hHeld => ?_)
      clear hK K
      refine norm_ (a' := ?_) ?_ ?_
      rotate_left
      · show Act.put _ (some 50) _ = _
        simp only [Act.put, List.setIfInBounds_toArray, List.set_cons_zero, List.set_cons_succ, i64_w, i32_w]
        rfl
      refine last_ (i := 10) (N := some 51) #[true, true, true, true, true, true, true, true, true, true, true, false, false, false] rfl rfl (by kernel_rfl) (by decide) (fun K hK => ?_)
      refine Kd.R_append_step kp (w0 := wd) B (by rfl) (.tmp 45) (.tmp 50) 52 77 (.agg #[.int .i64 0, .int .i64 0, .int .i64 0, .string ⟨#[]⟩, .slice none 0 0, .int .i64 0]) 72 rfl Try.underlying52 info77f rfl (by decide) (by omega) (.slice A2 es.length c2) es x [.int .i64 x.f0, .int .i64 x.f1, .int .i64 x.f2, .string x.f3, .slice none 0 0, .int .i64 x.f5] (fun q => (F q ∨ wr.heap.size ≤ q) ∧ q ≠ g) (fun _ => False) rfl rfl ?aP (fun _ hk => hk.elim) ?aF ?aO (Below.refl _ _) ?aS ?aL ?_
      (case aP => exact kp_mk _ _ _ x HX4.out)
      (case aF => intro q hq; have := HS0.out; have := HGL.out; exact ⟨.inr (by omega), by omega⟩)
      (case aO => exact Kd.R_mono HRE.out (fun q hq => ⟨.inl hq.1, hq.2⟩))
      (case aS => exact Nat.le_trans HBH.out HS0.out)
      (case aL => have := HEL.out; omega)
      intro v1 w5 ho hb hg hat
      obtain ⟨Av, cv, rfl⟩ := Kd.R_slice ho
      have HO5 := Aside0.mk ho
      have HG5 := Aside0.mk hg
      clear ho hb hg hat
      refine hK.out _ _ ?_
      clear hK K
      refine norm_ (a' := ?_) ?_ ?_
      rotate_left
      · show Act.put _ (some 51) _ = _
        simp only [Act.put, List.setIfInBounds_toArray, List.set_cons_zero, List.set_cons_succ, i64_w, i32_w]
        rfl
      refine pure_ (i := 11) (N := some 52) (v := ?_) (a' := ?_) #[true, true, true, true, true, true, true, true, true, true, true, true, false, false] rfl rfl (by kernel_rfl) (fun _ _ _ h => h) (Or.inl ⟨by rfl, ?_⟩) ?_ ?_
      rotate_left
      · intro w'
        go_simp
        with_reducible rfl
      rotate_left
      · simp only [Act.put, List.setIfInBounds_toArray, List.set_cons_zero, List.set_cons_succ, i64_w, i32_w]
        rfl
      refine pure_ (i := 12) (N := some 53) (v := ?_) (a' := ?_) #[true, true, true, true, true, true, true, true, true, true, true, true, true, false] rfl rfl (by kernel_rfl) (fun _ _ _ h => h) (Or.inl ⟨by rfl, ?_⟩) ?_ ?_
      rotate_left
      · intro w'
        go_simp
        with_reducible rfl
      rotate_left
      · simp only [Act.put, List.setIfInBounds_toArray, List.set_cons_zero, List.set_cons_succ, i64_w, i32_w]
        rfl
      refine last_ (i := 13) (N := none) #[true, true, true, true, true, true, true, true, true, true, true, true, true, true] rfl rfl (by kernel_rfl) (by decide) (fun K hK => ?_)
      have hbg5 := blk_grown BG.out HG5.out (Kd.R_ne HRE.out BG.out (by decide))
      have BG5 := Aside0.mk hbg5
      have hs5 : w5.cell? ⟨g, 2, none⟩ = some (Value.slice A2 es.length c2) := (blk_cell BG5.out 2).trans rfl
      have hf5 := blk_frozen BG5.out 2
      clear hbg5
      refine skip_ (w1 := ?_) (by rfl) rfl ?_ ?_
      rotate_left
      · go_simp
        rfl
      refine hK.out _ _ ?_
      clear hK K
      refine done_ (by kernel_rfl) ?_
      have hle2 : (es ++ [x]).length = es.length + 1 := by rw [List.length_append]; rfl
      have hle1 : (ts ++ [t]).length = ts.length + 1 := by rw [List.length_append]; rfl
      have HO6 := HO5.out
      rw [hle2] at HO6
      have hov3 : ∀ q, q ∈ 3 :: (Kd.int .i64).E → q ≠ 77 := by intro q hq; have hq' : q ∈ [3] := hq; simp at hq'; omega
      have hRT5 := Kd.R_over' HRT4.out (Kd.R_typed HRE.out) hov3 HG5.out
      have HF6 := Aside0.mk HO6
      have HF7 := Aside0.mk hRT5
      clear HO6 hRT5 hov3 hHeld hs5 hf5
      go_wp2
      case roundEnd =>
        generalize hw6 : World.setCell w5 ⟨g, 2, none⟩ _ = w6
        have hfr6 : ∀ q, q ≠ g → w6.heap[q]? = w5.heap[q]? := fun q hq => by rw [← hw6]; exact Below.heap_setCell w5 _ _ q hq
        have hb6 : w6.heap[g]? = some (.cells #[.int .i64 b, .slice At (ts.length + 1) ct, .slice Av (es.length + 1) cv] 67 (0, 0)) := by rw [← hw6]; simpa using blk_set BG5.out 2 (.slice Av (es.length + 1) cv)
        have hk6 : Kept (fun q => F q ∨ wr.heap.size ≤ q) W w6 := by
          have h1 := (HKD.out.below HBD.out).imp (F' := fun q => F q ∨ wr.heap.size ≤ q) (fun q hq => .inl (.inl hq))
          have h2 := h1.trans (F' := fun q => F q ∨ wr.heap.size ≤ q) (fun q hq => .inl hq) (kept_grown HG5.out (fun q hq => .inl (HRE.out.1 q hq).1))
          rw [← hw6]
          exact h2.trans (fun q hq => .inl hq) (kept_set w5 _ _ (.inl HGF.out))
        have hE6 := Kd.R_step HF6.out (w1 := w6) (fun q hq _ => hfr6 q hq.2)
        have hT6 := Kd.R_step HF7.out (w1 := w6) (fun q hq _ => hfr6 q hq.2)
        refine ⟨⟨k + 1, rfl, by have := HK0.out; omega, ⟨fun h => by omega⟩, ⟨fun _ => ⟨fun q => (F q ∨ wr.heap.size ≤ q) ∧ q < w6.heap.size, ?_, ?_, ?_⟩⟩⟩, ?_⟩
        · refine ⟨At, ct, Av, cv, ?_, ⟨.inl HGF.out, blk_lt hb6⟩, fun q hq => hq.1.elim (HFB.out q) (fun h => Nat.le_trans HBS.out h), fun q hq => hq.2, ?_, ?_, ?_, hb0, ?_⟩
          · rw [hle1, hle2]; exact hb6
          · rw [hle1]; exact Kd.R_mono (Kd.R_bound hT6) (fun q hq => ⟨⟨hq.1.1, hq.2.2.1⟩, hq.1.2⟩)
          · rw [hle2]; exact Kd.R_mono (Kd.R_bound hE6) (fun q hq => ⟨⟨hq.1.1, hq.2.2.1⟩, hq.1.2⟩)
          · rw [hle1, hle2, HLL.out]
          · rw [hle2]; omega
        · intro q hq
          have := HHD.out.below.size
          rcases hq.1 with h | h
          · exact .inl h
          · exact .inr (by omega)
        · exact ⟨hk6.os, hk6.tape, hk6.output, hk6.size, fun q hq hn => hk6.block q hq (fun hf => hf.elim hn (fun h => by have := HHD.out.below.size; omega))⟩
        · have := HK0.out
          simp only [intOf, Int.toNat_natCast]
          omega
    · obtain rfl : k = 1 := by omega
      obtain ⟨F', hI, hF, hK⟩ := HD1.out rfl
      have HI := Aside0.mk hI
      have HFF := Aside0.mk hF
      have HKK := Aside0.mk hK
      have hle2 : ((es ++ [x]).length : Int) = (es.length : Int) + 1 := by rw [List.length_append]; rfl
      clear hI hF hK
      go_wp2_with (first | (go_at_call 67; refine (xlast_calls HI.out).mono ?_; rintro e w' ⟨rfl, ⟨n, rfl⟩⟩))
      go_ret2
      refine ⟨F', ?_, HI.out.drewN _, HFF.out, HKK.out.below (drawn_below (by repeat (first | exact Drawn0.refl _ | apply Drawn0.step)))⟩
      show Ending.returned (Value.tuple #[.int .i64 (b + ((es.length : Int) + 1)), .int .i64 0]) = _
      rw [Int.add_assoc]

end Go.Proofs.Ytbomomaidglegaa.Hist
