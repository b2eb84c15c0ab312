/- hist.Hist.Entry, by hand. -/
import Derived.Test.YtbomomaidglegaaHistPut
import Derived.Deep.LoopGhost
import Derived.WalkSpells
namespace Go.Proofs.Ytbomomaidglegaa.Hist
open Go Go.RowKit Go.Proofs.Ytbomomaidglegaa.XHist Go.Proofs.YtbomomaidglegaaW.PrintWords Go.Proofs.YtbomomaidglegaaW.PrintLast Go.Proofs.YtbomomaidglegaaW.PrintMore
set_option linter.unusedVariables false
set_option linter.unusedSimpArgs false


/-- An entry; the empty one where there is none. -/
def en (b : Int) (l : List S105) (i : Int) : S77 := if b < i ∧ i ≤ b + (l.length : Int) then (rd_T105 l (i - b - 1)).f1 else z77
theorem rd105_at (l : List S105) (i : Nat) (h : i < l.length) : rd_T105 l (i : Int) = l[i] := by simp [rd_T105, List.getD, h]
theorem blk_put_ {w : World} {g : Nat} {t : TypeId} {cs cs' : Array Value} (h : w.heap[g]? = some (.cells cs t (0, 0))) (i : Nat) (u : Value) (hc : cs.setIfInBounds i u = cs') : (w.setCell ⟨g, i, none⟩ u).heap[g]? = some (.cells cs' t (0, 0)) := by rw [← hc]; exact blk_set h i u

set_option maxHeartbeats 8000000 in
set_option maxRecDepth 100000 in
theorem entry_calls {B : Nat} {W : World} {g : Nat} {F : Nat → Prop} {b : Int} {l : List S105} (h : IsH B W g F b l) (hm : ∀ x ∈ l, x.f1.f4.length < 17592186044416) (i : Int) :
    Calls Try.prog 46 #[.pointer (some ⟨g, 0, none⟩), .int .i64 i] W fun e w' => ∃ (A5 : Option Addr) (c5 : Nat), e = .returned (.tuple #[.agg #[.int .i64 (en b l i).f0, .int .i64 (en b l i).f1, .int .i64 (en b l i).f2, .string (en b l i).f3, .slice A5 (en b l i).f4.length c5, .int .i64 (en b l i).f5], .bool (decide (b < i ∧ i ≤ b + (l.length : Int)))]) ∧
      Kd.R (Kd.int .i64) 3 w' W.heap.size (fun _ => True) (.slice A5 (en b l i).f4.length c5) (en b l i).f4 ∧ Below W.heap.size W w' := by
  have hu77 := Try.underlying77
  have HH := Aside0.mk h
  by_cases c1 : b < i ∧ i ≤ b + (l.length : Int)
  · obtain ⟨A, c, hb, hc, hC, h0, h1⟩ := h.reads
    have d1 : decide (b < i ∧ i ≤ b + (l.length : Int)) = true := decide_eq_true c1
    obtain ⟨j, hj⟩ : ∃ j : Nat, i - b - 1 = (j : Int) := ⟨(i - b - 1).toNat, by omega⟩
    have hjl : j < l.length := by omega
    have hjA : IntKind.i64.wrap (IntKind.i64.wrap (i - b) - 1) = (j : Int) := by rw [i64_w, i64_w]; unfold wrap64; omega
    have hjB : IntKind.i64.wrap (wrap64 (i - b) - 1) = (j : Int) := by rw [i64_w]; unfold wrap64; omega
    have hjC : wrap64 (wrap64 (i - b) - 1) = (j : Int) := by unfold wrap64; omega
    have hen : en b l i = (rd_T105 l (j : Int)).f1 := by unfold en; rw [if_pos c1, hj]
    have HXM := Aside0.mk (hm (l[j]) (List.getElem_mem hjl))
    rw [hen, d1]
    obtain ⟨x, hx⟩ : ∃ x, (rd_T105 l (j : Int)).f1 = x := ⟨_, rfl⟩
    have p1 : 0 ≤ (j : Int) := by omega
    have q1 : (j : Int) < (l.length : Int) := by omega
    obtain ⟨ad, A4, c4, rfl, hy, hy0, hy1, hy2, hy3, hy4, hy5, hxc, hxC⟩ := at_T105 hC (j : Int) p1 q1
    rw [Int.toNat_natCast] at hy0 hy1 hy2 hy3 hy4 hy5
    rw [hx] at hy0 hy1 hy2 hy3 hy4 hy5 hxc hxC ⊢
    rw [← rd105_at l j hjl, hx] at HXM
    have HXr := Aside0.mk hxC
    have HXC := Aside0.mk hxc
    have YR := Aside0.mk (And.intro hy0 (And.intro hy1 (And.intro hy2 (And.intro hy3 (And.intro hy4 hy5)))))
    have BGr := Aside0.mk hb
    replace p1 := eq_true p1
    replace q1 := eq_true q1
    clear hb h hC c1 hc hxC hxc hen hj hx hy hy0 hy1 hy2 hy3 hy4 hy5 hm
    go_enter Try.func46, Try.ntmps46
    go_wp2_with (first | (go_at_call 66; refine (has_calls (HH.out.alloc _) i).mono ?_; rintro e w' ⟨rfl, ⟨n, rfl⟩⟩; rw [d1]))
    obtain ⟨wa, hwa⟩ : ∃ wa, (W.alloc (.cells #[.int .i64 0, .int .i64 0, .int .i64 0, .string ⟨#[]⟩, .slice none 0 0, .int .i64 0] 77)).drewN n = wa := ⟨_, rfl⟩
    have hba : Below W.heap.size W wa := by rw [← hwa]; exact pw_below_drewN (below_alloc (Below.refl _ _) _) _
    have hbe : wa.heap[W.heap.size]? = some (.cells #[.int .i64 0, .int .i64 0, .int .i64 0, .string ⟨#[]⟩, .slice none 0 0, .int .i64 0] 77 (0, 0)) := by rw [← hwa]; exact heap_alloc_new _ _
    rw [hwa]
    obtain ⟨gb, hgb⟩ : ∃ gb, W.heap.size = gb := ⟨_, rfl⟩
    rw [hgb] at hbe ⊢
    have HBD := Aside0.mk (show Below W.heap.size W wa.drew from below_drew hba)
    have BE := Aside0.mk (show wa.drew.heap[gb]? = some (.cells #[.int .i64 0, .int .i64 0, .int .i64 0, .string ⟨#[]⟩, .slice none 0 0, .int .i64 0] 77 (0, 0)) from hbe)
    have BG := Aside0.mk (blk_below BGr.out HBD.out)
    have HX := Aside0.mk (Kd.C_below HXr.out HBD.out)
    have HY0 := Aside0.mk (pw_cell_below HBD.out YR.out.1)
    have HY1 := Aside0.mk (pw_cell_below HBD.out YR.out.2.1)
    have HY2 := Aside0.mk (pw_cell_below HBD.out YR.out.2.2.1)
    have HY3 := Aside0.mk (pw_cell_below HBD.out YR.out.2.2.2.1)
    have HY4 := Aside0.mk (pw_cell_below HBD.out YR.out.2.2.2.2.1)
    have HY5 := Aside0.mk (pw_cell_below HBD.out YR.out.2.2.2.2.2)
    have HS0 := Aside0.mk (show gb < wa.drew.heap.size from blk_lt hbe)
    clear hba hbe hwa BGr HXr YR
    refine start_ (n := 17) (S := fun w' => w'.cell? ⟨g, 0, none⟩ = some (Value.int .i64 b) ∧ w'.cell? ⟨g, 1, none⟩ = some (Value.slice (some ad) l.length c) ∧ w'.cell? ⟨(ad.add (j * 7)).block, (ad.add (j * 7)).off + 1, none⟩ = some (Value.int .i64 x.f0) ∧ w'.cell? ⟨(ad.add (j * 7)).block, (ad.add (j * 7)).off + 2, none⟩ = some (Value.int .i64 x.f1) ∧ w'.cell? ⟨(ad.add (j * 7)).block, (ad.add (j * 7)).off + 3, none⟩ = some (Value.int .i64 x.f2) ∧ w'.cell? ⟨(ad.add (j * 7)).block, (ad.add (j * 7)).off + 4, none⟩ = some (Value.string x.f3) ∧ w'.cell? ⟨(ad.add (j * 7)).block, (ad.add (j * 7)).off + 5, none⟩ = some (Value.slice A4 x.f4.length c4) ∧ w'.cell? ⟨(ad.add (j * 7)).block, (ad.add (j * 7)).off + 6, none⟩ = some (Value.int .i64 x.f5)) (ds := [15]) #[false, false, false, false, false, false, false, false, false, false, false, false, false, false, false, false, false] (by kernel_rfl) rfl rfl ⟨(blk_cell BG.out 0).trans rfl, (blk_cell BG.out 1).trans rfl, HY0.out, HY1.out, HY2.out, HY3.out, HY4.out, HY5.out⟩ (fun hHeld => ?_)
    generalize wa.drew = wd at BE BG HBD HX HY0 HY1 HY2 HY3 HY4 HY5 HS0 hHeld ⊢
    refine pure_ (i := 0) (N := some 11) (v := ?_) (a' := ?_) #[true, false, false, false, false, false, false, false, false, false, false, false, false, false, false, false, false] rfl rfl (by kernel_rfl) (fun _ _ _ h => h) (Or.inl ⟨by rfl, ?_⟩) ?_ ?_
    rotate_left
    · intro w'
      go_simp
      with_reducible rfl
    rotate_left
    · simp only [Act.put, List.setIfInBounds_toArray, List.set_cons_zero, List.set_cons_succ, i64_w, i32_w]
      rfl
    refine pure_ (i := 1) (N := some 12) (v := ?_) (a' := ?_) #[true, true, false, false, false, false, false, false, false, false, false, false, false, false, false, false, false] rfl rfl (by kernel_rfl) (fun _ _ _ h => h) (Or.inl ⟨by rfl, ?_⟩) ?_ ?_
    rotate_left
    · intro w'
      go_simp
      with_reducible rfl
    rotate_left
    · simp only [Act.put, List.setIfInBounds_toArray, List.set_cons_zero, List.set_cons_succ, i64_w, i32_w]
      rfl
    refine pure_ (i := 2) (N := some 13) (v := ?_) (a' := ?_) #[true, true, true, false, false, false, false, false, false, false, false, false, false, false, false, false, false] rfl rfl (by kernel_rfl) (fun _ _ _ h => h) (Or.inl ⟨by rfl, ?_⟩) ?_ ?_
    rotate_left
    · intro w'
      go_simp
      with_reducible rfl
    rotate_left
    · simp only [Act.put, List.setIfInBounds_toArray, List.set_cons_zero, List.set_cons_succ, i64_w, i32_w]
      rfl
    refine pure_ (i := 4) (N := some 15) (v := ?_) (a' := ?_) #[true, true, true, false, true, false, false, false, false, false, false, false, false, false, false, false, false] rfl rfl (by kernel_rfl) (fun _ _ _ h => h) (Or.inl ⟨by rfl, ?_⟩) ?_ ?_
    rotate_left
    · intro w'
      go_simp
      with_reducible rfl
    rotate_left
    · simp only [Act.put, List.setIfInBounds_toArray, List.set_cons_zero, List.set_cons_succ, i64_w, i32_w]
      rfl
    refine pure_ (i := 5) (N := some 16) (v := ?_) (a' := ?_) #[true, true, true, false, true, true, false, false, false, false, false, false, false, false, false, false, false] rfl rfl (by kernel_rfl) (fun _ _ _ h => h) (Or.inl ⟨by rfl, ?_⟩) ?_ ?_
    rotate_left
    · intro w'
      go_simp
      with_reducible rfl
    rotate_left
    · simp only [Act.put, List.setIfInBounds_toArray, List.set_cons_zero, List.set_cons_succ, i64_w, i32_w]
      rfl
    refine pure_ (i := 6) (N := some 17) (v := ?_) (a' := ?_) #[true, true, true, false, true, true, true, false, false, false, false, false, false, false, false, false, false] rfl rfl (by kernel_rfl) (fun _ _ _ h => h) (Or.inl ⟨by rfl, ?_⟩) ?_ ?_
    rotate_left
    · intro w'
      go_simp
      with_reducible rfl
    rotate_left
    · simp only [Act.put, List.setIfInBounds_toArray, List.set_cons_zero, List.set_cons_succ, i64_w, i32_w]
      rfl
    refine pure_ (i := 7) (N := some 18) (v := ?_) (a' := ?_) #[true, true, true, false, true, true, true, true, false, false, false, false, false, false, false, false, false] rfl rfl (by kernel_rfl) (fun _ _ _ h => h) (Or.inl ⟨by rfl, ?_⟩) ?_ ?_
    rotate_left
    · intro w'
      go_simp
      with_reducible rfl
    rotate_left
    · simp only [Act.put, List.setIfInBounds_toArray, List.set_cons_zero, List.set_cons_succ, i64_w, i32_w]
      rfl
    refine take_ (i := 3) (N := some 14) (v := ?_) (a' := ?_) #[true, true, true, true, true, true, true, true, false, false, false, false, false, false, false, false, false] rfl rfl (by kernel_rfl) (fun _ _ _ h => h) (Or.inl ⟨by rfl, ?_⟩) hHeld ?_ ?_
    rotate_left
    · rintro w' ⟨s0, s1, s2, s3, s4, s5, s6, s7⟩
      go_simp
      with_reducible rfl
    rotate_left
    · simp only [Act.put, List.setIfInBounds_toArray, List.set_cons_zero, List.set_cons_succ, i64_w, i32_w]
      rfl
    refine take_ (i := 8) (N := some 19) (v := ?_) (a' := ?_) #[true, true, true, true, true, true, true, true, true, false, false, false, false, false, false, false, false] rfl rfl (by kernel_rfl) (fun _ _ _ h => h) (Or.inl ⟨by rfl, ?_⟩) hHeld ?_ ?_
    rotate_left
    · rintro w' ⟨s0, s1, s2, s3, s4, s5, s6, s7⟩
      go_simp
      with_reducible rfl
    rotate_left
    · simp only [Act.put, List.setIfInBounds_toArray, List.set_cons_zero, List.set_cons_succ, i64_w, i32_w]
      rfl
    refine pure_ (i := 9) (N := some 20) (v := ?_) (a' := ?_) #[true, true, true, true, true, true, true, true, true, true, false, false, false, false, false, false, false] rfl rfl (by kernel_rfl) (fun _ _ _ h => h) (Or.inl ⟨by rfl, ?_⟩) ?_ ?_
    rotate_left
    · intro w'
      go_simp
      with_reducible rfl
    rotate_left
    · simp only [Act.put, List.setIfInBounds_toArray, List.set_cons_zero, List.set_cons_succ, i64_w, i32_w]
      rfl
    refine pure_ (i := 10) (N := some 21) (v := ?_) (a' := ?_) #[true, true, true, true, true, true, true, true, true, true, true, false, false, false, false, false, false] rfl rfl (by kernel_rfl) (fun _ _ _ h => h) (Or.inl ⟨by rfl, ?_⟩) ?_ ?_
    rotate_left
    · intro w'
      go_simp
      with_reducible rfl
    rotate_left
    · simp only [Act.put, List.setIfInBounds_toArray, List.set_cons_zero, List.set_cons_succ, i64_w, i32_w]
      rfl
    refine pure_ (i := 11) (N := some 22) (v := ?_) (a' := ?_) #[true, true, true, true, true, true, true, true, true, true, true, true, false, false, false, false, false] rfl rfl (by kernel_rfl) (fun _ _ _ h => h) (Or.inl ⟨by rfl, ?_⟩) ?_ ?_
    rotate_left
    · intro w'
      go_simp
      with_reducible rfl
    rotate_left
    · simp only [Act.put, List.setIfInBounds_toArray, List.set_cons_zero, List.set_cons_succ, i64_w, i32_w]
      rfl
    refine pure_ (i := 12) (N := some 23) (v := ?_) (a' := ?_) #[true, true, true, true, true, true, true, true, true, true, true, true, true, false, false, false, false] rfl rfl (by kernel_rfl) (fun _ _ _ h => h) (Or.inl ⟨by rfl, ?_⟩) ?_ ?_
    rotate_left
    · intro w'
      go_simp
      with_reducible rfl
    rotate_left
    · simp only [Act.put, List.setIfInBounds_toArray, List.set_cons_zero, List.set_cons_succ, i64_w, i32_w]
      rfl
    refine take_ (i := 13) (N := some 24) (v := ?_) (a' := ?_) #[true, true, true, true, true, true, true, true, true, true, true, true, true, true, false, false, false] rfl rfl (by kernel_rfl) (fun _ _ _ h => h) (Or.inl ⟨by rfl, ?_⟩) hHeld ?_ ?_
    rotate_left
    · rintro w' ⟨s0, s1, s2, s3, s4, s5, s6, s7⟩
      go_simp
      with_reducible rfl
    rotate_left
    · simp only [Act.put, List.setIfInBounds_toArray, List.set_cons_zero, List.set_cons_succ, i64_w, i32_w]
      rfl
    refine one_ (i := 14) (N := some 25) #[true, true, true, true, true, true, true, true, true, true, true, true, true, true, true, false, false] rfl rfl (by kernel_rfl) (by decide) (fun K hK => ?_)
    refine goes_ Try.func65 (by kernel_rfl) rfl #[.agg #[.int .i64 x.f0, .int .i64 x.f1, .int .i64 x.f2, .string x.f3, .slice A4 x.f4.length c4, .int .i64 x.f5]] (by rfl) rfl rfl (by simp only [List.map_toArray, List.map_cons, List.map_nil]; rfl) ?_
    with_reducible refine (twin_calls x A4 c4 _ HX.out HXC.out HXM.out).mono ?_
    rintro e_ w3 ⟨v4, rfl, hr3, hb3⟩
    refine ⟨_, rfl, ?_⟩
    obtain ⟨Av, cv, rfl⟩ := Kd.R_slice hr3
    have HR3 := Aside0.mk hr3
    have HB3 := Aside0.mk hb3
    clear hr3 hb3
    refine hK.out _ _ ⟨pw_cell_below HB3.out (hHeld.1), pw_cell_below HB3.out (hHeld.2.1), pw_cell_below HB3.out (hHeld.2.2.1), pw_cell_below HB3.out (hHeld.2.2.2.1), pw_cell_below HB3.out (hHeld.2.2.2.2.1), pw_cell_below HB3.out (hHeld.2.2.2.2.2.1), pw_cell_below HB3.out (hHeld.2.2.2.2.2.2.1), pw_cell_below HB3.out (hHeld.2.2.2.2.2.2.2)⟩ (fun hHeld => ?_)
    clear hK K
    refine norm_ (a' := ?_) ?_ ?_
    rotate_left
    · show Act.put _ (some 25) _ = _
      simp only [Act.put, List.setIfInBounds_toArray, List.set_cons_zero, List.set_cons_succ, i64_w, i32_w]
      rfl
    refine last_ (i := 15) (N := none) #[true, true, true, true, true, true, true, true, true, true, true, true, true, true, true, true, false] rfl rfl (by kernel_rfl) (by decide) (fun K hK => ?_)
    have BE3 := Aside0.mk (blk_below BE.out HB3.out)
    have hs0 : w3.cell? ⟨gb, 0, none⟩ = some (Value.int .i64 0) := (blk_cell BE3.out 0).trans rfl
    have hs1 : w3.cell? ⟨gb, 1, none⟩ = some (Value.int .i64 0) := (blk_cell BE3.out 1).trans rfl
    have hs2 : w3.cell? ⟨gb, 2, none⟩ = some (Value.int .i64 0) := (blk_cell BE3.out 2).trans rfl
    have hs3 : w3.cell? ⟨gb, 3, none⟩ = some (Value.string ⟨#[]⟩) := (blk_cell BE3.out 3).trans rfl
    have hs4 : w3.cell? ⟨gb, 4, none⟩ = some (Value.slice none 0 0) := (blk_cell BE3.out 4).trans rfl
    have hs5 : w3.cell? ⟨gb, 5, none⟩ = some (Value.int .i64 0) := (blk_cell BE3.out 5).trans rfl
    have hfz0 := blk_frozen BE3.out 0
    have hfz1 := blk_frozen BE3.out 1
    have hfz2 := blk_frozen BE3.out 2
    have hfz3 := blk_frozen BE3.out 3
    have hfz4 := blk_frozen BE3.out 4
    have hfz5 := blk_frozen BE3.out 5
    refine skip_ (w1 := ?_) (by rfl) rfl ?_ ?_
    rotate_left
    · go_simp
      rfl
    refine hK.out _ _ ?_
    clear hK K
    refine pure_ (i := 16) (N := some 5) (v := ?_) (a' := ?_) #[true, true, true, true, true, true, true, true, true, true, true, true, true, true, true, true, true] rfl rfl (by kernel_rfl) (fun _ _ _ h => h) (Or.inl ⟨by rfl, ?_⟩) ?_ ?_
    rotate_left
    · intro w'
      go_simp
      with_reducible rfl
    rotate_left
    · simp only [Act.put, List.setIfInBounds_toArray, List.set_cons_zero, List.set_cons_succ, i64_w, i32_w]
      rfl
    refine done_ (by kernel_rfl) ?_
    have HBE := Aside0.mk (blk_put_ (cs := #[.int .i64 x.f0, .int .i64 x.f1, .int .i64 x.f2, .string x.f3, .slice Av x.f4.length cv, .int .i64 0]) (cs' := #[.int .i64 x.f0, .int .i64 x.f1, .int .i64 x.f2, .string x.f3, .slice Av x.f4.length cv, .int .i64 x.f5]) (blk_put_ (cs := #[.int .i64 x.f0, .int .i64 x.f1, .int .i64 x.f2, .string x.f3, .slice none 0 0, .int .i64 0]) (cs' := #[.int .i64 x.f0, .int .i64 x.f1, .int .i64 x.f2, .string x.f3, .slice Av x.f4.length cv, .int .i64 0]) (blk_put_ (cs := #[.int .i64 x.f0, .int .i64 x.f1, .int .i64 x.f2, .string ⟨#[]⟩, .slice none 0 0, .int .i64 0]) (cs' := #[.int .i64 x.f0, .int .i64 x.f1, .int .i64 x.f2, .string x.f3, .slice none 0 0, .int .i64 0]) (blk_put_ (cs := #[.int .i64 x.f0, .int .i64 x.f1, .int .i64 0, .string ⟨#[]⟩, .slice none 0 0, .int .i64 0]) (cs' := #[.int .i64 x.f0, .int .i64 x.f1, .int .i64 x.f2, .string ⟨#[]⟩, .slice none 0 0, .int .i64 0]) (blk_put_ (cs := #[.int .i64 x.f0, .int .i64 0, .int .i64 0, .string ⟨#[]⟩, .slice none 0 0, .int .i64 0]) (cs' := #[.int .i64 x.f0, .int .i64 x.f1, .int .i64 0, .string ⟨#[]⟩, .slice none 0 0, .int .i64 0]) (blk_put_ (cs := #[.int .i64 0, .int .i64 0, .int .i64 0, .string ⟨#[]⟩, .slice none 0 0, .int .i64 0]) (cs' := #[.int .i64 x.f0, .int .i64 0, .int .i64 0, .string ⟨#[]⟩, .slice none 0 0, .int .i64 0]) BE3.out 0 _ rfl) 1 _ rfl) 2 _ rfl) 3 _ rfl) 4 _ rfl) 5 _ rfl)
    go_wp2
    refine bodyPost_ret (results_ct rfl _ _ gb 77 #[.int .i64 x.f0, .int .i64 x.f1, .int .i64 x.f2, .string x.f3, .slice Av x.f4.length cv, .int .i64 x.f5] (0, 0) _ rfl HBE.out Try.underlying77 rfl (by kernel_rfl)) rfl ?_
    have K6 : KeepBut w3 ((((((w3.setCell ⟨gb, 0, none⟩ (.int .i64 x.f0)).setCell ⟨gb, 1, none⟩ (.int .i64 x.f1)).setCell ⟨gb, 2, none⟩ (.int .i64 x.f2)).setCell ⟨gb, 3, none⟩ (.string x.f3)).setCell ⟨gb, 4, none⟩ (.slice Av x.f4.length cv)).setCell ⟨gb, 5, none⟩ (.int .i64 x.f5)) gb none := (KeepBut.set_ (KeepBut.set_ (KeepBut.set_ (KeepBut.set_ (KeepBut.set_ (KeepBut.set_ (KeepBut.refl w3 gb none) 0 (.int .i64 x.f0)) 1 (.int .i64 x.f1)) 2 (.int .i64 x.f2)) 3 (.string x.f3)) 4 (.slice Av x.f4.length cv)) 5 (.int .i64 x.f5))
    refine ⟨Av, cv, rfl, Kd.R_mono (ok := fun q => wd.heap.size ≤ q) (Kd.R_step (Kd.R_lower (Kd.R_mono (Kd.R_bound HR3.out) (fun q hq => hq.2.1)) (Nat.le_of_lt (Nat.lt_of_le_of_lt (Nat.le_of_eq hgb) HS0.out))) (fun q hq hlt => K6.2 q hlt (by have := HS0.out; omega) (by simp))) (fun _ _ => trivial), ?_⟩
    exact (below_set (below_set (below_set (below_set (below_set (below_set (below_then HBD.out HBD.out.size HB3.out) (by omega)) (by omega)) (by omega)) (by omega)) (by omega)) (by omega))
  · have d1 : decide (b < i ∧ i ≤ b + (l.length : Int)) = false := decide_eq_false c1
    have hen : en b l i = z77 := by unfold en; rw [if_neg c1]
    rw [hen, d1]
    clear c1 hen
    go_enter Try.func46, Try.ntmps46
    go_wp2_with (first | (go_at_call 66; refine (has_calls (HH.out.alloc _) i).mono ?_; rintro e w' ⟨rfl, ⟨n, rfl⟩⟩; rw [d1]))
    have BE0 : ((W.alloc (.cells #[.int .i64 0, .int .i64 0, .int .i64 0, .string ⟨#[]⟩, .slice none 0 0, .int .i64 0] 77)).drewN n).heap[W.heap.size]? = some (.cells #[.int .i64 0, .int .i64 0, .int .i64 0, .string ⟨#[]⟩, .slice none 0 0, .int .i64 0] 77 (0, 0)) := heap_alloc_new _ _
    have HB3 : Below W.heap.size W ((W.alloc (.cells #[.int .i64 0, .int .i64 0, .int .i64 0, .string ⟨#[]⟩, .slice none 0 0, .int .i64 0] 77)).drewN n) := pw_below_drewN (below_alloc (Below.refl _ _) _) _
    generalize (W.alloc (.cells #[.int .i64 0, .int .i64 0, .int .i64 0, .string ⟨#[]⟩, .slice none 0 0, .int .i64 0] 77)).drewN n = w3 at BE0 HB3 ⊢
    have HBE := (blk_put_ (cs := #[.int .i64 0, .int .i64 0, .int .i64 0, .string ⟨#[]⟩, .slice none 0 0, .int .i64 0]) (cs' := #[.int .i64 0, .int .i64 0, .int .i64 0, .string ⟨#[]⟩, .slice none 0 0, .int .i64 0]) (blk_put_ (cs := #[.int .i64 0, .int .i64 0, .int .i64 0, .string ⟨#[]⟩, .slice none 0 0, .int .i64 0]) (cs' := #[.int .i64 0, .int .i64 0, .int .i64 0, .string ⟨#[]⟩, .slice none 0 0, .int .i64 0]) (blk_put_ (cs := #[.int .i64 0, .int .i64 0, .int .i64 0, .string ⟨#[]⟩, .slice none 0 0, .int .i64 0]) (cs' := #[.int .i64 0, .int .i64 0, .int .i64 0, .string ⟨#[]⟩, .slice none 0 0, .int .i64 0]) (blk_put_ (cs := #[.int .i64 0, .int .i64 0, .int .i64 0, .string ⟨#[]⟩, .slice none 0 0, .int .i64 0]) (cs' := #[.int .i64 0, .int .i64 0, .int .i64 0, .string ⟨#[]⟩, .slice none 0 0, .int .i64 0]) (blk_put_ (cs := #[.int .i64 0, .int .i64 0, .int .i64 0, .string ⟨#[]⟩, .slice none 0 0, .int .i64 0]) (cs' := #[.int .i64 0, .int .i64 0, .int .i64 0, .string ⟨#[]⟩, .slice none 0 0, .int .i64 0]) (blk_put_ (cs := #[.int .i64 0, .int .i64 0, .int .i64 0, .string ⟨#[]⟩, .slice none 0 0, .int .i64 0]) (cs' := #[.int .i64 0, .int .i64 0, .int .i64 0, .string ⟨#[]⟩, .slice none 0 0, .int .i64 0]) BE0 0 _ rfl) 1 _ rfl) 2 _ rfl) 3 _ rfl) 4 _ rfl) 5 _ rfl)
    refine bodyPost_ret (results_ct rfl _ _ W.heap.size 77 #[.int .i64 0, .int .i64 0, .int .i64 0, .string ⟨#[]⟩, .slice none 0 0, .int .i64 0] (0, 0) _ rfl HBE Try.underlying77 rfl (by kernel_rfl)) rfl ?_
    have K6 : KeepBut w3 ((((((w3.setCell ⟨W.heap.size, 0, none⟩ (.int .i64 0)).setCell ⟨W.heap.size, 1, none⟩ (.int .i64 0)).setCell ⟨W.heap.size, 2, none⟩ (.int .i64 0)).setCell ⟨W.heap.size, 3, none⟩ (.string ⟨#[]⟩)).setCell ⟨W.heap.size, 4, none⟩ (.slice none 0 0)).setCell ⟨W.heap.size, 5, none⟩ (.int .i64 0)) W.heap.size none := (KeepBut.set_ (KeepBut.set_ (KeepBut.set_ (KeepBut.set_ (KeepBut.set_ (KeepBut.set_ (KeepBut.refl w3 W.heap.size none) 0 (.int .i64 0)) 1 (.int .i64 0)) 2 (.int .i64 0)) 3 (.string ⟨#[]⟩)) 4 (.slice none 0 0)) 5 (.int .i64 0))
    exact ⟨none, 0, rfl, Kd.R_nil _ _ _ _ _, (below_set (below_set (below_set (below_set (below_set (below_set HB3 (Nat.le_refl _)) (Nat.le_refl _)) (Nat.le_refl _)) (Nat.le_refl _)) (Nat.le_refl _)) (Nat.le_refl _))⟩

end Go.Proofs.Ytbomomaidglegaa.Hist
