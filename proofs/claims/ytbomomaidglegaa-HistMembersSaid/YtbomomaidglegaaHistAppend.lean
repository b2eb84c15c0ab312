/- hist.Hist.Append, by hand: entries of a term behind the others. -/
import Derived.Test.YtbomomaidglegaaHistBase0
import Derived.Deep.LoopGhost
import Derived.WalkSpells
namespace Go.Proofs.Ytbomomaidglegaa.Hist
open Go Go.RowKit Go.Proofs.Ytbomomaidglegaa.XHist Go.Proofs.YtbomomaidglegaaW.PrintWords Go.Proofs.YtbomomaidglegaaW.PrintLast Go.Proofs.YtbomomaidglegaaW.PrintMore
set_option linter.unusedVariables false
set_option linter.unusedSimpArgs false


theorem info105 : (Try.prog.info? 105).map (fun i => (i.zero, i.size, i.bytes)) = some (some (.agg #[.int .i64 0, .int .i64 0, .int .i64 0, .int .i64 0, .string ⟨#[]⟩, .slice none 0 0, .int .i64 0]), 7, 80) := by kernel_rfl

theorem twin_calls (x : S77) (A4 : Option Addr) (c4 : Nat) (w : World) (hC : Kd.C (Kd.int .i64) w A4 x.f4.length x.f4) (hc : x.f4.length ≤ c4) (hm : x.f4.length < 17592186044416) :
    Calls Try.prog 65 #[.agg #[.int .i64 x.f0, .int .i64 x.f1, .int .i64 x.f2, .string x.f3, .slice A4 x.f4.length c4, .int .i64 x.f5]] w fun e w' =>
      ∃ v4 : Value, e = .returned (.agg #[.int .i64 x.f0, .int .i64 x.f1, .int .i64 x.f2, .string x.f3, v4, .int .i64 x.f5]) ∧ Kd.R (Kd.int .i64) 3 w' w.heap.size (fun _ => True) v4 x.f4 ∧ Below w.heap.size w w' :=
  hist_twin.calls x.f0 x.f1 x.f2 x.f3 A4 c4 x.f4 x.f5 x.f0 x.f1 x.f2 x.f3 x.f4 x.f5 w hC hc (by unfold hist_twin.f slices_Clone_int_int.f; rw [if_pos hm]; rfl)

/-- A row that was made behind a world. -/
theorem row_new {α : Type} {d : Kd α} {e n m B g : Nat} {w : World} {v : Value} {xs : List α} (h : d.R e w n (fun _ => True) v xs) (hm : m ≤ n) (hB : B ≤ n) (hg : g < n) : d.R e w B (fun q => m ≤ q ∧ q ≠ g) v xs :=
  Kd.R_lower (Kd.R_mono (Kd.R_bound h) (fun q hq => ⟨by omega, by omega⟩)) hB
theorem own_in {α : Type} {d : Kd α} {e B : Nat} {ok : Nat → Prop} {w : World} {v : Value} {xs : List α} (h : d.R e w B ok v xs) : ∀ q, v.ownBlock = some q → q < w.heap.size := fun q hq => (Kd.R_bound h).1 q hq |>.2.2.1

theorem kept_grown {F : Nat → Prop} {W W' : World} {row : Option Nat} (hg : W.grownBy W' row) (hr : ∀ q, row = some q → F q) : Kept F W W' :=
  ⟨hg.os, hg.tape, hg.output, hg.size, fun q hq hn => hg.block q hq (fun he => hn (hr q he.symm))⟩
theorem kept_set {F : Nat → Prop} (W : World) (p : Addr) (u : Value) (hF : F p.block) : Kept F W (W.setCell p u) :=
  ⟨rfl, rfl, rfl, by simp [World.setCell], fun q _ hn => Below.heap_setCell W p u q (fun he => hn (he ▸ hF))⟩

/-- What Append lays behind the others. -/
def appL (t : Int) (es : List S77) : List S105 := es.map fun e => ⟨t, e⟩
/-- What Append answers, and the log behind it. -/
def appF (b : Int) (l : List S105) (t : Int) (es : List S77) : Int × Int × List S105 :=
  if t < 1 ∨ t < tm b l (b + (l.length : Int)) then (0, 1, l) else if b + (l.length : Int) + (es.length : Int) > 64 then (0, 14, l) else (b + (l.length : Int) + (es.length : Int), 0, l ++ appL t es)
theorem appL_length (t : Int) (es : List S77) : (appL t es).length = es.length := by simp [appL]
theorem rd77_at (l : List S77) (i : Nat) (h : i < l.length) : rd_T77 l (i : Int) = l[i] := by simp [rd_T77, List.getD, h]

set_option maxHeartbeats 8000000 in
set_option maxRecDepth 100000 in
theorem append_calls {B : Nat} {W : World} {g : Nat} {F : Nat → Prop} {b : Int} {l : List S105} (h : IsH B W g F b l) (hBW : B ≤ W.heap.size) (t : Int) (A : Option Addr) (c : Nat) (es : List S77)
    (hE : ∀ W', Kept F W W' → Kd.C k77 W' A es.length es) (hc : es.length ≤ c) (hl : es.length < 1000000) (hm : ∀ x ∈ es, x.f4.length < 17592186044416) :
    Calls Try.prog 33 #[.pointer (some ⟨g, 0, none⟩), .int .i64 t, .slice A es.length c] W fun e w' => ∃ (F' : Nat → Prop), e = .returned (.tuple #[.int .i64 (appF b l t es).1, .int .i64 (appF b l t es).2.1]) ∧
      IsH B w' g F' b (appF b l t es).2.2 ∧ (∀ q, F' q → F q ∨ W.heap.size ≤ q) ∧ Kept F W w' := by
  obtain ⟨m, hmm⟩ : ∃ m, tm b l (b + (l.length : Int)) = m := ⟨_, rfl⟩
  have hbb := h.bounds
  have HH := Aside0.mk h
  have HE := Aside0.mk hE
  have HMM := Aside0.mk hmm
  have HM := Aside0.mk hm
  have HBW := Aside0.mk hBW
  clear hE hm h hBW
  have hu105 := Try.underlying105
  have hu77 := Try.underlying77
  by_cases c1 : t < 1
  · have d1 : decide (t < 1) = true := decide_eq_true c1
    rw [show appF b l t es = (0, 1, l) by unfold appF; rw [if_pos (.inl c1)]]
    clear c1 HE HM hmm
    go_enter Try.func33, Try.ntmps33
    go_wp2
    go_ret2
    exact ⟨F, rfl, HH.out.drawn (by repeat (first | exact Drawn0.refl _ | apply Drawn0.step)), fun q hq => .inl hq, drawn_kept (by repeat (first | exact Drawn0.refl _ | apply Drawn0.step))⟩
  have d1 : decide (t < 1) = false := decide_eq_false c1
  by_cases c2 : t < m
  · have d2 : decide (t < m) = true := decide_eq_true c2
    rw [show appF b l t es = (0, 1, l) by unfold appF; rw [hmm, if_pos (.inr c2)]]
    clear c1 c2 HE HM hmm
    go_enter Try.func33, Try.ntmps33
    go_wp2_with (first
      | (go_at_call 35; refine (last_calls (by repeat (first | exact HH.out | apply IsH.drew | apply IsH.drewN))).mono ?_; rintro e w' ⟨rfl, ⟨n, rfl⟩⟩)
      | (go_at_call 36; refine (term_calls (by repeat (first | exact HH.out | apply IsH.drew | apply IsH.drewN)) _).mono ?_; rintro e w' ⟨rfl, ⟨n, rfl⟩⟩; rw [HMM.out]))
    go_ret2
    exact ⟨F, rfl, HH.out.drawn (by repeat (first | exact Drawn0.refl _ | apply Drawn0.step)), fun q hq => .inl hq, drawn_kept (by repeat (first | exact Drawn0.refl _ | apply Drawn0.step))⟩
  have d2 : decide (t < m) = false := decide_eq_false c2
  have c12 : ¬ (t < 1 ∨ t < m) := fun h => h.elim c1 c2
  clear c1 c2
  by_cases c3 : b + (l.length : Int) + (es.length : Int) > 64
  · have d3 : decide (64 < b + (l.length : Int) + (es.length : Int)) = true := decide_eq_true c3
    rw [show appF b l t es = (0, 14, l) by unfold appF; rw [hmm, if_neg c12, if_pos c3]]
    clear c3 HE HM hmm c12
    go_enter Try.func33, Try.ntmps33
    go_wp2_with (first
      | (go_at_call 35; refine (last_calls (by repeat (first | exact HH.out | apply IsH.drew | apply IsH.drewN))).mono ?_; rintro e w' ⟨rfl, ⟨n, rfl⟩⟩)
      | (go_at_call 36; refine (term_calls (by repeat (first | exact HH.out | apply IsH.drew | apply IsH.drewN)) _).mono ?_; rintro e w' ⟨rfl, ⟨n, rfl⟩⟩; rw [HMM.out]))
    go_ret2
    exact ⟨F, rfl, HH.out.drawn (by repeat (first | exact Drawn0.refl _ | apply Drawn0.step)), fun q hq => .inl hq, drawn_kept (by repeat (first | exact Drawn0.refl _ | apply Drawn0.step))⟩
  have d3 : decide (64 < b + (l.length : Int) + (es.length : Int)) = false := decide_eq_false c3
  rw [show appF b l t es = (b + (l.length : Int) + (es.length : Int), 0, l ++ appL t es) by unfold appF; rw [hmm, if_neg c12, if_neg c3]]
  clear c12 hmm
  have HC3 := Aside0.mk c3
  have HBB := Aside0.mk hbb
  clear c3
  go_enter Try.func33, Try.ntmps33
  go_wp2_with (first
    | (go_at_call 35; refine (last_calls (by repeat (first | exact HH.out | apply IsH.drew | apply IsH.drewN))).mono ?_; rintro e w' ⟨rfl, ⟨n, rfl⟩⟩)
    | (go_at_call 36; refine (term_calls (by repeat (first | exact HH.out | apply IsH.drew | apply IsH.drewN)) _).mono ?_; rintro e w' ⟨rfl, ⟨n, rfl⟩⟩; rw [HMM.out]))
  clear hbb d1 d2 d3
  go_loopw [30] (fun v30 wr => ∃ (k : Nat) (Fk : Nat → Prop), k ≤ es.length ∧ v30 = .int .i64 k ∧ Aside0 (IsH B wr g Fk b (l ++ appL t (es.take k))) ∧ Aside0 (∀ q, Fk q → F q ∨ W.heap.size ≤ q) ∧ Aside0 (Kept F W wr))
    (fun v30 _ => es.length - (intOf v30).toNat)
  case atStart =>
    refine ⟨0, F, Nat.zero_le _, rfl, ⟨?_⟩, ⟨fun q hq => .inl hq⟩, ⟨drawn_kept (by repeat (first | exact Drawn0.refl _ | apply Drawn0.step))⟩⟩
    simp only [List.take_zero, appL, List.map_nil, List.append_nil]
    exact HH.out.drawn (by repeat (first | exact Drawn0.refl _ | apply Drawn0.step))
  case round =>
    obtain ⟨k, Fk, hk, rfl, HI, HF, HKR⟩ := hrel
    by_cases hlt : k < es.length
    · have p1 : 0 ≤ (k : Int) := by omega
      have q1 : (k : Int) < (es.length : Int) := by omega
      obtain ⟨ad, A4, c4, rfl, hx0, hx1, hx2, hx3, hx4, hx5, hxc, hxC⟩ := at_T77 (HE.out wr HKR.out) (k : Int) p1 q1
      rw [Int.toNat_natCast] at hx0 hx1 hx2 hx3 hx4 hx5
      obtain ⟨x, hxk⟩ : ∃ x, rd_T77 es (k : Int) = x := ⟨_, rfl⟩
      have hxe : x = es[k] := by rw [← hxk, rd77_at es k hlt]
      rw [hxk] at hx0 hx1 hx2 hx3 hx4 hx5 hxc hxC
      have HXE := Aside0.mk hxe
      have HXM := Aside0.mk (HM.out x (by rw [hxe]; exact List.getElem_mem hlt))
      have hlk1 : b + (((l ++ appL t (es.take k)).length : Nat) : Int) + 1 ≤ 64 := by
        rw [List.length_append, appL_length, List.length_take]
        have := HC3.out
        omega
      obtain ⟨lk, hlk⟩ : ∃ lk, l ++ appL t (es.take k) = lk := ⟨_, rfl⟩
      have hln : l ++ appL t (es.take (k + 1)) = lk ++ [(⟨t, x⟩ : S105)] := by
        rw [List.take_succ_eq_append_getElem hlt, ← hlk, hxe]
        simp only [appL, List.map_append, List.map_cons, List.map_nil, List.append_assoc]
      rw [hlk] at HI hlk1
      have HLN := Aside0.mk hln
      obtain ⟨v0, hb, hg0, hF0, hRV, hb0, hb1⟩ := HI.out
      have HG0 := Aside0.mk hg0
      have HF0 := Aside0.mk hF0
      have HLK := Aside0.mk (show (lk.length + 1) * 80 ≤ 140737488355328 by omega)
      have HLB := Aside0.mk hlk1
      have HS1 := Aside0.mk HBW.out
      have BGr := Aside0.mk hb
      have RVr := Aside0.mk hRV
      have HXCr := Aside0.mk hxC
      have HXC := Aside0.mk hxc
      have hc0 : wr.cell? ⟨g, 1, none⟩ = some v0 := (blk_cell hb 1).trans rfl
      replace p1 := eq_true p1
      replace q1 := eq_true q1
      clear hln hlk hxe hxk hb hg0 hF0 hRV hxC hxc HI hlk1 hb1
      go_wp2
      have hgl := blk_lt BGr.out
      have hvl := own_in RVr.out
      have hown := RVr.out.1
      obtain ⟨wa, hwa⟩ : ∃ wa, wr.alloc (.cells #[.int .i64 x.f0, .int .i64 x.f1, .int .i64 x.f2, .string x.f3, .slice A4 x.f4.length c4, .int .i64 x.f5] 77) = wa := ⟨_, rfl⟩
      have hba : Below wr.heap.size wr wa := by rw [← hwa]; exact below_alloc (Below.refl _ _) _
      have hbe : wa.heap[wr.heap.size]? = some (.cells #[.int .i64 x.f0, .int .i64 x.f1, .int .i64 x.f2, .string x.f3, .slice A4 x.f4.length c4, .int .i64 x.f5] 77 (0, 0)) := by rw [← hwa]; exact heap_alloc_new _ _
      rw [hwa]
      obtain ⟨gb, hgb⟩ : ∃ gb, wr.heap.size = gb := ⟨_, rfl⟩
      rw [hgb] at hgl hvl hbe ⊢
      have HGL := Aside0.mk hgl
      have HVL := Aside0.mk hvl
      have HOWN := Aside0.mk hown
      have BG := Aside0.mk (show wa.drew.heap[g]? = some (.cells #[.int .i64 b, v0] 103 (0, 0)) from (hba.block g (blk_lt BGr.out)).trans BGr.out)
      have BE := Aside0.mk (show wa.drew.heap[gb]? = some (.cells #[.int .i64 x.f0, .int .i64 x.f1, .int .i64 x.f2, .string x.f3, .slice A4 x.f4.length c4, .int .i64 x.f5] 77 (0, 0)) from hbe)
      have HBD := Aside0.mk (show Below wr.heap.size wr wa.drew from below_drew hba)
      have HRV := Aside0.mk (Kd.R_below RVr.out HBD.out)
      have HX := Aside0.mk (Kd.C_below HXCr.out HBD.out)
      have HS0 := Aside0.mk (show gb ≤ wa.drew.heap.size by rw [← hgb]; exact HBD.out.size)
      have HBG := Aside0.mk (show B ≤ gb by rw [← hgb]; exact Nat.le_trans HBW.out HKR.out.size)
      clear hgl hvl hown hba hbe hx0 hx1 hx2 hx3 hx4 hx5 hwa HXCr hc0
      refine start_ (n := 14) (S := fun w' => w'.cell? ⟨g, 1, none⟩ = some (v0 : Value) ∧ w'.cell? ⟨gb, 0, none⟩ = some (Value.int .i64 x.f0 : Value) ∧ w'.cell? ⟨gb, 1, none⟩ = some (Value.int .i64 x.f1 : Value) ∧ w'.cell? ⟨gb, 2, none⟩ = some (Value.int .i64 x.f2 : Value) ∧ w'.cell? ⟨gb, 3, none⟩ = some (Value.string x.f3 : Value) ∧ w'.cell? ⟨gb, 4, none⟩ = some (Value.slice A4 x.f4.length c4 : Value) ∧ w'.cell? ⟨gb, 5, none⟩ = some (Value.int .i64 x.f5 : Value)) (ds := [10, 13]) #[false, false, false, false, false, false, false, false, false, false, false, false, false, false] (by kernel_rfl) rfl rfl ⟨(blk_cell BG.out 1).trans rfl, (blk_cell BE.out 0).trans rfl, (blk_cell BE.out 1).trans rfl, (blk_cell BE.out 2).trans rfl, (blk_cell BE.out 3).trans rfl, (blk_cell BE.out 4).trans rfl, (blk_cell BE.out 5).trans rfl⟩ (fun hHeld => ?_)
      generalize wa.drew = wd at BG BE HBD HRV HX HS0 hHeld ⊢
      refine pure_ (i := 0) (N := some 34) (v := ?_) (a' := ?_) #[true, false, false, false, false, false, false, false, false, false, false, false, false, false] rfl rfl (by kernel_rfl) (fun _ _ _ h => h) (Or.inl ⟨by rfl, ?_⟩) ?_ ?_
      rotate_left
      · intro w'
        go_simp
        with_reducible rfl
      rotate_left
      · simp only [Act.put, List.setIfInBounds_toArray, List.set_cons_zero, List.set_cons_succ, i64_w, i32_w]
        rfl
      refine pure_ (i := 1) (N := some 35) (v := ?_) (a' := ?_) #[true, true, false, false, false, false, false, false, false, false, false, false, false, false] rfl rfl (by kernel_rfl) (fun _ _ _ h => h) (Or.inl ⟨by rfl, ?_⟩) ?_ ?_
      rotate_left
      · intro w'
        go_simp
        with_reducible rfl
      rotate_left
      · simp only [Act.put, List.setIfInBounds_toArray, List.set_cons_zero, List.set_cons_succ, i64_w, i32_w]
        rfl
      refine pure_ (i := 2) (N := some 36) (v := ?_) (a' := ?_) #[true, true, true, false, false, false, false, false, false, false, false, false, false, false] rfl rfl (by kernel_rfl) (fun _ _ _ h => h) (Or.inl ⟨by rfl, ?_⟩) ?_ ?_
      rotate_left
      · intro w'
        go_simp
        with_reducible rfl
      rotate_left
      · simp only [Act.put, List.setIfInBounds_toArray, List.set_cons_zero, List.set_cons_succ, i64_w, i32_w]
        rfl
      refine pure_ (i := 3) (N := some 37) (v := ?_) (a' := ?_) #[true, true, true, true, false, false, false, false, false, false, false, false, false, false] rfl rfl (by kernel_rfl) (fun _ _ _ h => h) (Or.inl ⟨by rfl, ?_⟩) ?_ ?_
      rotate_left
      · intro w'
        go_simp
        with_reducible rfl
      rotate_left
      · simp only [Act.put, List.setIfInBounds_toArray, List.set_cons_zero, List.set_cons_succ, i64_w, i32_w]
        rfl
      refine pure_ (i := 5) (N := some 39) (v := ?_) (a' := ?_) #[true, true, true, true, false, true, false, false, false, false, false, false, false, false] rfl rfl (by kernel_rfl) (fun _ _ _ h => h) (Or.inl ⟨by rfl, ?_⟩) ?_ ?_
      rotate_left
      · intro w'
        go_simp
        with_reducible rfl
      rotate_left
      · simp only [Act.put, List.setIfInBounds_toArray, List.set_cons_zero, List.set_cons_succ, i64_w, i32_w]
        rfl
      refine take_ (i := 4) (N := some 38) (v := ?_) (a' := ?_) #[true, true, true, true, true, true, false, false, false, false, false, false, false, false] rfl rfl (by kernel_rfl) (fun _ _ _ h => h) (Or.inl ⟨by rfl, ?_⟩) hHeld ?_ ?_
      rotate_left
      · rintro w' ⟨s0, s1, s2, s3, s4, s5, s6⟩
        go_simp
        with_reducible rfl
      rotate_left
      · simp only [Act.put, List.setIfInBounds_toArray, List.set_cons_zero, List.set_cons_succ, i64_w, i32_w]
        rfl
      refine take_ (i := 6) (N := some 40) (v := ?_) (a' := ?_) #[true, true, true, true, true, true, true, false, false, false, false, false, false, false] rfl rfl (by kernel_rfl) (fun _ _ _ h => h) (Or.inl ⟨by rfl, ?_⟩) hHeld ?_ ?_
      rotate_left
      · rintro w' ⟨s0, s1, s2, s3, s4, s5, s6⟩
        go_simp
        with_reducible rfl
      rotate_left
      · simp only [Act.put, List.setIfInBounds_toArray, List.set_cons_zero, List.set_cons_succ, i64_w, i32_w]
        rfl
      refine one_ (i := 7) (N := some 41) #[true, true, true, true, true, true, true, true, false, false, false, false, false, false] rfl rfl (by kernel_rfl) (by decide) (fun K hK => ?_)
      refine goes_ Try.func65 (by kernel_rfl) rfl #[.agg #[.int .i64 x.f0, .int .i64 x.f1, .int .i64 x.f2, .string x.f3, .slice A4 x.f4.length c4, .int .i64 x.f5]] (by rfl) rfl rfl (by simp only [List.map_toArray, List.map_cons, List.map_nil]; rfl) ?_
      with_reducible refine (twin_calls x A4 c4 _ HX.out HXC.out HXM.out).mono ?_
      rintro e w3 ⟨v4, rfl, hr3, hb3⟩
      refine ⟨_, rfl, ?_⟩
      have HR3 := Aside0.mk hr3
      have HB3 := Aside0.mk hb3
      clear hr3 hb3
      refine hK.out _ _ ⟨pw_cell_below HB3.out (hHeld.1), pw_cell_below HB3.out (hHeld.2.1), pw_cell_below HB3.out (hHeld.2.2.1), pw_cell_below HB3.out (hHeld.2.2.2.1), pw_cell_below HB3.out (hHeld.2.2.2.2.1), pw_cell_below HB3.out (hHeld.2.2.2.2.2.1), pw_cell_below HB3.out (hHeld.2.2.2.2.2.2)⟩ (fun hHeld => ?_)
      clear hK K
      refine norm_ (a' := ?_) ?_ ?_
      rotate_left
      · show Act.put _ (some 41) _ = _
        simp only [Act.put, List.setIfInBounds_toArray, List.set_cons_zero, List.set_cons_succ, i64_w, i32_w]
        rfl
      refine pure_ (i := 8) (N := some 42) (v := ?_) (a' := ?_) #[true, true, true, true, true, true, true, true, true, false, false, false, false, false] rfl rfl (by kernel_rfl) (fun _ _ _ h => h) (Or.inl ⟨by rfl, ?_⟩) ?_ ?_
      rotate_left
      · intro w'
        go_simp
        with_reducible rfl
      rotate_left
      · simp only [Act.put, List.setIfInBounds_toArray, List.set_cons_zero, List.set_cons_succ, i64_w, i32_w]
        rfl
      refine one_ (i := 9) (N := some 43) #[true, true, true, true, true, true, true, true, true, true, false, false, false, false] rfl rfl (by kernel_rfl) (by decide) (fun K hK => ?_)
      refine value_ (w1 := ?_) (v := ?_) (by rfl) rfl ?_ ?_
      rotate_left 2
      · go_simp
        constructor
        · rfl
        · rfl
      refine hK.out _ _ ⟨pw_cell_below (below_alloc (Below.refl _ _) _) (hHeld.1), pw_cell_below (below_alloc (Below.refl _ _) _) (hHeld.2.1), pw_cell_below (below_alloc (Below.refl _ _) _) (hHeld.2.2.1), pw_cell_below (below_alloc (Below.refl _ _) _) (hHeld.2.2.2.1), pw_cell_below (below_alloc (Below.refl _ _) _) (hHeld.2.2.2.2.1), pw_cell_below (below_alloc (Below.refl _ _) _) (hHeld.2.2.2.2.2.1), pw_cell_below (below_alloc (Below.refl _ _) _) (hHeld.2.2.2.2.2.2)⟩ (fun hHeld => ?_)
      clear hK K
      refine norm_ (a' := ?_) ?_ ?_
      rotate_left
      · show Act.put _ (some 43) _ = _
        simp only [Act.put, List.setIfInBounds_toArray, List.set_cons_zero, List.set_cons_succ, i64_w, i32_w]
        rfl
      refine last_ (i := 10) (N := some 44) #[true, true, true, true, true, true, true, true, true, true, true, false, false, false] rfl rfl (by kernel_rfl) (by decide) (fun K hK => ?_)
      refine Kd.R_append_step k105 (w0 := w3) B (by rfl) (.tmp 38) (.tmp 43) 101 105 (.agg #[.int .i64 0, .int .i64 0, .int .i64 0, .int .i64 0, .string ⟨#[]⟩, .slice none 0 0, .int .i64 0]) 80 rfl Try.underlying101 info105 rfl (by decide) (by omega) v0 lk (⟨t, x⟩ : S105) [.int .i64 t, .int .i64 x.f0, .int .i64 x.f1, .int .i64 x.f2, .string x.f3, v4, .int .i64 x.f5] (fun q => (Fk q ∨ gb ≤ q) ∧ q ≠ g) (fun q => gb ≤ q ∧ q ≠ g) rfl rfl ?aP ?aK ?aF ?aO (Below.refl _ _) ?aS ?aL ?_
      (case aP => exact k105_mkM _ _ _ (⟨t, x⟩ : S105) (row_new HR3.out HS0.out (Nat.le_trans HBG.out HS0.out) (Nat.lt_of_lt_of_le HGL.out HS0.out)))
      (case aK => intro q hq; exact ⟨⟨.inr hq.1, hq.2⟩, fun he => by have := HVL.out q he.symm; have := hq.1; omega⟩)
      (case aF => intro q hq; have := HB3.out.size; have := HS0.out; have := HGL.out; exact ⟨.inr (by omega), by omega⟩)
      (case aO => exact Kd.R_mono (Kd.R_below HRV.out HB3.out) (fun q hq => ⟨.inl hq.1, hq.2⟩))
      (case aS => have := HB3.out.size; have := HBG.out; have := HS0.out; omega)
      (case aL => have := HLK.out; omega)
      intro v1 w5 ho hb hg hat
      obtain ⟨Av, cv, rfl⟩ := Kd.R_slice ho
      have HO5 := Aside0.mk ho
      have HG5 := Aside0.mk hg
      clear ho hb hg hat
      refine hK.out _ _ ?_
      clear hK K
      refine norm_ (a' := ?_) ?_ ?_
      rotate_left
      · show Act.put _ (some 44) _ = _
        simp only [Act.put, List.setIfInBounds_toArray, List.set_cons_zero, List.set_cons_succ, i64_w, i32_w]
        rfl
      refine pure_ (i := 11) (N := some 45) (v := ?_) (a' := ?_) #[true, true, true, true, true, true, true, true, true, true, true, true, false, false] rfl rfl (by kernel_rfl) (fun _ _ _ h => h) (Or.inl ⟨by rfl, ?_⟩) ?_ ?_
      rotate_left
      · intro w'
        go_simp
        with_reducible rfl
      rotate_left
      · simp only [Act.put, List.setIfInBounds_toArray, List.set_cons_zero, List.set_cons_succ, i64_w, i32_w]
        rfl
      refine pure_ (i := 12) (N := some 46) (v := ?_) (a' := ?_) #[true, true, true, true, true, true, true, true, true, true, true, true, true, false] rfl rfl (by kernel_rfl) (fun _ _ _ h => h) (Or.inl ⟨by rfl, ?_⟩) ?_ ?_
      rotate_left
      · intro w'
        go_simp
        with_reducible rfl
      rotate_left
      · simp only [Act.put, List.setIfInBounds_toArray, List.set_cons_zero, List.set_cons_succ, i64_w, i32_w]
        rfl
      refine last_ (i := 13) (N := none) #[true, true, true, true, true, true, true, true, true, true, true, true, true, true] rfl rfl (by kernel_rfl) (by decide) (fun K hK => ?_)
      have hbg5 := blk_grown (blk_below BG.out HB3.out) HG5.out (Kd.R_ne (Kd.R_below HRV.out HB3.out) (blk_below BG.out HB3.out) (by decide))
      have BG5 := Aside0.mk hbg5
      have hs5 : w5.cell? ⟨g, 1, none⟩ = some v0 := (blk_cell BG5.out 1).trans rfl
      have hf5 := blk_frozen BG5.out 1
      clear hbg5
      refine skip_ (w1 := ?_) (by rfl) rfl ?_ ?_
      rotate_left
      · go_simp
        rfl
      refine hK.out _ _ ?_
      clear hK K
      refine done_ (by kernel_rfl) ?_
      go_wp2
      go_roundw
      case rel =>
        refine ⟨k + 1, fun q => Fk q ∨ gb ≤ q, hlt, ?_, ⟨?_⟩, ⟨?_⟩, ⟨?_⟩⟩
        · rfl
        · rw [HLN.out]
          refine ⟨_, by simpa using blk_set BG5.out 1 (.slice Av (lk ++ [(⟨t, x⟩ : S105)]).length cv), .inl HG0.out, fun q hq => hq.elim (HF0.out q) (fun h => Nat.le_trans HBG.out h), Kd.R_step HO5.out (fun q hq _ => Below.heap_setCell w5 _ _ q hq.2), hb0, ?_⟩
          have := HLB.out
          rw [List.length_append, List.length_singleton]
          omega
        · intro q hq
          have := HKR.out.size
          rcases hq with hq | hq
          · exact HF.out q hq
          · exact .inr (by omega)
        · refine HKR.out.trans HF.out (F' := Fk) ?_
          have h1 : Kept Fk wr w3 := (Kept.of_below HBD.out).below HB3.out
          exact (h1.trans (fun q hq => .inl hq) (kept_grown HG5.out (fun q hq => (HOWN.out q hq).1))).trans (fun q hq => .inl hq) (kept_set w5 _ _ HG0.out)
      case measure =>
        simp only [intOf, Int.toNat_natCast]
        omega
    · have hkl : k = es.length := by omega
      subst hkl
      rw [List.take_length] at HI
      obtain ⟨l', hl'⟩ : ∃ l', l ++ appL t es = l' := ⟨_, rfl⟩
      have hll : (l'.length : Int) = (l.length : Int) + (es.length : Int) := by rw [← hl', List.length_append, appL_length]; omega
      rw [hl'] at HI
      have hq := eq_false (show ¬ ((es.length : Int) < (es.length : Int)) by omega)
      clear hk hlt
      go_wp2_with (first
        | (go_at_call 35; refine (last_calls (by repeat (first | exact HI.out | apply IsH.drew | apply IsH.drewN))).mono ?_; rintro e w' ⟨rfl, ⟨n, rfl⟩⟩))
      go_ret2
      refine ⟨Fk, ?_, ?_, HF.out, ?_⟩
      · show Ending.returned (Value.tuple #[.int .i64 (b + ((l.length : Int) + (es.length : Int))), .int .i64 0]) = _
        rw [Int.add_assoc]
      · rw [hl']; exact HI.out.drawn (by repeat (first | exact Drawn0.refl _ | apply Drawn0.step))
      · exact HKR.out.below (drawn_below (by repeat (first | exact Drawn0.refl _ | apply Drawn0.step)))

end Go.Proofs.Ytbomomaidglegaa.Hist
