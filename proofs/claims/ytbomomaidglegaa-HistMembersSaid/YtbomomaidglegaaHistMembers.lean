/- HistMembers: members count from where they stand on. -/
import Derived.Test.YtbomomaidglegaaHistConf
import Derived.Deep.LoopGhost
import Derived.WalkSpells
namespace Go.Proofs.Ytbomomaidglegaa.Hist
open Go Go.RowKit Go.Proofs.Ytbomomaidglegaa.XHist Go.Proofs.YtbomomaidglegaaW.PrintWords Go.Proofs.YtbomomaidglegaaW.PrintLast Go.Proofs.YtbomomaidglegaaW.PrintMore
set_option linter.unusedVariables false
set_option linter.unusedSimpArgs false


theorem app_ones (l : List S105) (e : S77) (h : ∀ y ∈ l, y.f0 = 1) (hl : l.length < 40) : appF 0 l 1 [e] = ((l.length : Int) + 1, 0, l ++ [⟨1, e⟩]) := by
  have ht : tm 0 l (0 + (l.length : Int)) ≤ 1 := by
    rcases tm_case 0 l (0 + (l.length : Int)) with h0 | ⟨y, hy, h0⟩
    · omega
    · rw [h0, h y hy]; exact Int.le_refl _
  unfold appF
  rw [if_neg (by omega), if_neg (by simp; omega)]
  simp [appL]
theorem within_below (a n : Int) (w : World) (h1 : 1 ≤ n) (h2 : n ≤ 1000000) : Calls Try.prog 34 #[.int .i64 a, .int .i64 n] w fun e w' => ∃ v : Int, e = .returned (.int .i64 v) ∧ Below w.heap.size w w' ∧ 0 ≤ v ∧ v < n :=
  (within_calls a n w h1 h2).mono (by rintro e w' ⟨v, rfl, hd, h0, h3⟩; exact ⟨v, rfl, hd.below, h0, h3⟩)
theorem kd_cases (u : Int) (h0 : 0 ≤ u) (h1 : u < 3) : rd [2, 4, 1] u = 2 ∨ rd [2, 4, 1] u = 4 ∨ rd [2, 4, 1] u = 1 := by
  rcases (show u = 0 ∨ u = 1 ∨ u = 2 by omega) with rfl | rfl | rfl
  · exact .inl rfl
  · exact .inr (.inl rfl)
  · exact .inr (.inr rfl)
theorem sets6 (W : World) (g : Nat) (t : Nat) (a0 a1 a2 a3 a4 a5 v0 v1 v2 v3 v4 v5 : Value) (h : W.heap[g]? = some (.cells #[a0, a1, a2, a3, a4, a5] t (0, 0))) :
    ((((((W.setCell ⟨g, 0, none⟩ v0).setCell ⟨g, 1, none⟩ v1).setCell ⟨g, 2, none⟩ v2).setCell ⟨g, 3, none⟩ v3).setCell ⟨g, 4, none⟩ v4).setCell ⟨g, 5, none⟩ v5).heap[g]? = some (.cells #[v0, v1, v2, v3, v4, v5] t (0, 0)) ∧
      Kept (fun q => q = g) W ((((((W.setCell ⟨g, 0, none⟩ v0).setCell ⟨g, 1, none⟩ v1).setCell ⟨g, 2, none⟩ v2).setCell ⟨g, 3, none⟩ v3).setCell ⟨g, 4, none⟩ v4).setCell ⟨g, 5, none⟩ v5) := by
  refine ⟨?_, ?_⟩
  · exact blk_put_ (cs := #[v0, v1, v2, v3, v4, a5]) (blk_put_ (cs := #[v0, v1, v2, v3, a4, a5]) (blk_put_ (cs := #[v0, v1, v2, a3, a4, a5]) (blk_put_ (cs := #[v0, v1, a2, a3, a4, a5]) (blk_put_ (cs := #[v0, a1, a2, a3, a4, a5]) (blk_put_ (cs := #[a0, a1, a2, a3, a4, a5]) h 0 v0 rfl) 1 v1 rfl) 2 v2 rfl) 3 v3 rfl) 4 v4 rfl) 5 v5 rfl
  · exact (((((kept_set (F := fun q => q = g) W ⟨g, 0, none⟩ v0 rfl).trans (fun q hq => .inl hq) (kept_set (F := fun q => q = g) _ ⟨g, 1, none⟩ v1 rfl)).trans (fun q hq => .inl hq) (kept_set (F := fun q => q = g) _ ⟨g, 2, none⟩ v2 rfl)).trans (fun q hq => .inl hq) (kept_set (F := fun q => q = g) _ ⟨g, 3, none⟩ v3 rfl)).trans (fun q hq => .inl hq) (kept_set (F := fun q => q = g) _ ⟨g, 4, none⟩ v4 rfl)).trans (fun q hq => .inl hq) (kept_set (F := fun q => q = g) _ ⟨g, 5, none⟩ v5 rfl)
/-- What the law carries of its own: the two configurations' blocks and rows, apart from the log. -/
def Cn (w W : World) (F FX : Nat → Prop) (gq : Nat) (o n : List Int) : Prop := ∃ Ao co An cn, W.heap[gq]? = some (.cells #[.slice Ao o.length co, .slice An n.length cn] 26 (0, 0)) ∧ Rw (Kd.int .i64) 3 W w.heap.size F FX (.slice Ao o.length co) o ∧ Rw (Kd.int .i64) 3 W w.heap.size F FX (.slice An n.length cn) n ∧ ¬ F gq
section
variable {w W W' : World} {F FX : Nat → Prop} {gq : Nat} {o n : List Int}
theorem Cn.below (h : Cn w W F FX gq o n) (hb : Below W.heap.size W W') : Cn w W' F FX gq o n := by
  obtain ⟨Ao, co, An, cn, hg, h1, h2, h3⟩ := h
  exact ⟨Ao, co, An, cn, blk_below hg hb, h1.below hb, h2.below hb, h3⟩
theorem Cn.putH (h : Cn w W F FX gq o n) {F' : Nat → Prop} (hF : ∀ q, F' q → F q ∨ W.heap.size ≤ q) (hk : Kept F W W') : Cn w W' F' FX gq o n := by
  obtain ⟨Ao, co, An, cn, hg, h1, h2, h3⟩ := h
  exact ⟨Ao, co, An, cn, blk_kept hk hg h3, h1.putH hF hk, h2.putH hF hk, fun hf => (hF _ hf).elim h3 (fun hge => Nat.lt_irrefl _ (Nat.lt_of_lt_of_le (blk_lt hg) hge))⟩
theorem Cn.kept {K : Nat → Prop} (h : Cn w W F FX gq o n) (hk : Kept K W W') (h1 : ∀ q, K q → F q ∨ FX q) (h2 : ¬ K gq) : Cn w W' F FX gq o n := by
  obtain ⟨Ao, co, An, cn, hg, r1, r2, h3⟩ := h
  exact ⟨Ao, co, An, cn, blk_kept hk hg h2, r1.kept hk h1, r2.kept hk h1, h3⟩
end

set_option maxHeartbeats 16000000 in
set_option maxRecDepth 100000 in
theorem HistMembers_walk (a0 : Int) (A0 : Option Addr) (c0 : Nat) (l0 : List Int) (w : World) (_w0 : (Lit.int .i64 a0).wf = true)
    (hC0 : Kd.C (Kd.int .i64) w A0 l0.length l0) (_hc0 : l0.length ≤ c0) (hm0 : l0.length ≤ maxLen) (_ho0 : ∀ a ∈ l0, (Lit.int .i64 a).wf = true) :
    Calls Try.prog 14 #[.int .i64 a0, .slice A0 l0.length c0] w fun e w' => e = .returned (.bool true) ∧ Below w.heap.size w w' := by
  have HC0 := Aside0.mk hC0
  have HL0 := Aside0.mk (show l0.length ≤ 9223372036854775807 by have h := hm0; unfold maxLen at h; omega)
  have hu26 := Try.underlying26
  have hu77 := Try.underlying77
  obtain ⟨pr, hpl, hpr0, hpr1, hpr2⟩ := CP.plain_f a0
  have HPL := Aside0.mk (hpl 20 (Nat.le_refl _))
  have HPR := Aside0.mk hpr1
  clear hC0 _hc0 hm0 _ho0 _w0 hpl hpr0 hpr1 hpr2
  go_enter Try.func14, Try.ntmps14
  go_upto_region 5 with (first
    | (go_at_call 29; refine (known_calls _).mono ?_; rintro e_ w1 ⟨rfl, hb1⟩; have HB1 := Aside0.mk hb1; clear hb1)
    | (go_at_call 31; refine (new_live w 0 (by omega) (by omega) HB1.out).mono ?_; rintro e_ w2 ⟨g, F2, rfl, hl_, hb_, hf_⟩; have HL2 := Aside0.mk hl_; clear hl_ hb_ hf_)
    | (go_at_call 18; refine (synodallaw8_Plain.calls 20 a0 [] pr _ HPL.out).mono ?_; rintro e_ w3 ⟨v0_, v1_, rfl, hr0_, hr1_, hb_⟩; have HB3 := Aside0.mk hb_; have HR0 := Aside0.mk hr0_; have HR1 := Aside0.mk hr1_; obtain ⟨Aa, ca, e0_⟩ := Kd.R_slice hr0_; obtain ⟨Ab, cb, e1_⟩ := Kd.R_slice hr1_; subst e0_; subst e1_; clear hr0_ hr1_ hb_))
  generalize hw4 : World.alloc w3 _ = w4
  have hb4 : Below w3.heap.size w3 w4 := by rw [← hw4]; exact below_alloc (Below.refl _ _) _
  have hx4 : w4.heap[w3.heap.size]? = some (.cells #[.slice Aa ([] : List Int).length ca, .slice Ab pr.length cb] 26 (0, 0)) := by rw [← hw4]; exact heap_alloc_new _ _
  obtain ⟨gc, hgc⟩ : ∃ q, w3.heap.size = q := ⟨_, rfl⟩
  rw [hgc] at hx4 ⊢
  have hc0 := blk_cell hx4 0
  have hc1 := blk_cell hx4 1
  have BC4 := Aside0.mk hx4
  have HB4 := Aside0.mk hb4
  have HGC := Aside0.mk hgc
  clear hw4 hb4 hx4 hgc
  go_upto_region 6 with (fail)
  generalize hw5 : World.alloc w4 _ = w5
  have hb5 : Below w4.heap.size w4 w5 := by rw [← hw5]; exact below_alloc (Below.refl _ _) _
  have hx5 : w5.heap[w4.heap.size]? = some (.cells #[.slice Aa ([] : List Int).length ca, .slice Ab pr.length cb] 26 (0, 0)) := by rw [← hw5]; exact heap_alloc_new _ _
  obtain ⟨gw, hgw⟩ : ∃ q, w4.heap.size = q := ⟨_, rfl⟩
  rw [hgw] at hx5 ⊢
  have hgc := HGC.out
  have h34 := HB4.out.size
  have hc4 := blk_lt BC4.out
  have hne : gc ≠ gw := by omega
  have HNE := Aside0.mk hne
  have HL5 := Aside0.mk (((HL2.out.below HB3.out).below HB4.out).below hb5)
  have hbr : Below w3.heap.size w3 w5 := below_then HB4.out HB4.out.size hb5
  have hrow : ∀ (v : Value) (r : List Int) (ok : Nat → Prop), Kd.R (Kd.int .i64) 3 w3 w2.heap.size ok v r → Rw (Kd.int .i64) 3 w5 w.heap.size F2 (fun q => q = gc ∨ q = gw) v r := fun v r ok h =>
    Kd.R_mono (Kd.R_below (Kd.R_lower (Kd.R_bound h) HL2.out.2.2.size) hbr) (fun q hq => ⟨fun hf => by have h1 := HL2.out.lt q hf; have h2 := hq.2.1; omega, fun he => by have h2 := hq.2.2.1; omega, by have h2 := hq.2.2.1; have := hbr.size; omega⟩)
  have hz3 := HB3.out.size
  have HCC : Aside0 (Cn w w5 F2 (fun q => q = gc ∨ q = gw) gc [] pr) := ⟨⟨Aa, ca, Ab, cb, blk_below BC4.out hb5, hrow _ _ _ HR0.out, hrow _ _ _ HR1.out, fun hf => by have h1 := HL2.out.lt gc hf; omega⟩⟩
  have HCW : Aside0 (Cn w w5 F2 (fun q => q = gc ∨ q = gw) gw [] pr) := ⟨⟨Aa, ca, Ab, cb, hx5, hrow _ _ _ HR0.out, hrow _ _ _ HR1.out, fun hf => by have h1 := HL2.out.lt gw hf; omega⟩⟩
  have HGE := Aside0.mk (show w.heap.size ≤ gc ∧ w.heap.size ≤ gw from ⟨by have := HL2.out.2.2.size; omega, by have := HL2.out.2.2.size; omega⟩)
  clear hw5 hb5 hx5 hgw hgc h34 hc4 hne hbr hrow hz3 HL2 HB3 HB4 HR0 HR1 BC4 hc0 hc1 HGC HB1
  go_wp2
  go_loopw [8] (fun v8 wr => ∃ (i : Nat) (F : Nat → Prop) (l : List S105) (co cn : List Int), v8 = .int .i64 (i : Int) ∧ i ≤ l0.length ∧ i ≤ 30 ∧ Aside0 (l.length = i) ∧ Aside0 (Live w wr g F 0 l) ∧ Aside0 (Cn w wr F (fun q => q = gc ∨ q = gw) gc co cn) ∧ Aside0 (Cn w wr F (fun q => q = gc ∨ q = gw) gw [] pr) ∧
      Aside0 (∀ y ∈ l, y.f0 = 1 ∧ y.f1.f4.length ≤ 7) ∧ Aside0 (cf l ([], pr) = (co, cn)))
    (fun v8 _ => 30 - (intOf v8).toNat)
  case atStart => exact ⟨0, F2, [], [], pr, rfl, Nat.zero_le _, by omega, ⟨rfl⟩, HL5, HCC, HCW, ⟨fun y hy => by cases hy⟩, ⟨rfl⟩⟩
  case round =>
    obtain ⟨i, F, l, co, cn, rfl, hi, hi30, HLN, HL, HC, HW, HY, HCF⟩ := hrel
    clear HL5 HCC HCW
    have hwi : wrap64 ((i : Int) + 1) = (i : Int) + 1 := by unfold wrap64; omega
    by_cases hli : i < l0.length
    case neg =>
      have q1 := eq_false (show ¬ (i : Int) < (l0.length : Int) by omega)
      have q2 := decide_eq_false (show ¬ (i : Int) < (l0.length : Int) by omega)
      have q3 := decide_eq_false (show ¬ i < l0.length by omega)
      go_wp2
      go_ret
      exact ⟨rfl, HL.out.2.2⟩
    have q1 := eq_true (show (i : Int) < (l0.length : Int) by omega)
    have q1d := decide_eq_true (show (i : Int) < (l0.length : Int) by omega)
    have q1e := decide_eq_true hli
    by_cases hlt : i < 30
    case neg =>
      have q4 := eq_false (show ¬ (i : Int) < 30 by omega)
      have q5 := decide_eq_false (show ¬ (i : Int) < 30 by omega)
      have q6 := decide_eq_false (show ¬ i < 30 by omega)
      go_wp2
      go_ret
      exact ⟨rfl, HL.out.2.2⟩
    have q4 := eq_true (show (i : Int) < 30 by omega)
    have q5 := decide_eq_true (show (i : Int) < 30 by omega)
    have q6 := decide_eq_true hlt
    have q0 := eq_true (show 0 ≤ (i : Int) by omega)
    obtain ⟨ad, rfl, hx⟩ := Kd.at_int (Kd.C_below HC0.out HL.out.2.2) (i : Int) (by omega) (by omega)
    rw [Int.toNat_natCast] at hx
    obtain ⟨nv, hnv⟩ : ∃ nv, rd l0 (i : Int) = nv := ⟨_, rfl⟩
    rw [hnv] at hx
    obtain ⟨ms, hms, hms7, _⟩ := CP.list_f (wrap64 (nv.tdiv 3))
    have HMS := Aside0.mk (hms 20 (Nat.le_refl _))
    have HM7 := Aside0.mk hms7
    have HX0 := Aside0.mk hx
    clear hnv hms hms7 hx
    go_upto_region 9 with (fail)
    have HBD := Aside0.mk (show Below wr.heap.size wr wr.drew from below_drew (Below.refl _ _))
    have HXC := Aside0.mk (pw_cell_below HBD.out HX0.out)
    clear HX0
    refine start_ (n := 18) (S := fun w' => w'.cell? (ad.add i) = some (Value.int .i64 nv)) (ds := [17]) #[false, false, false, false, false, false, false, false, false, false, false, false, false, false, false, false, false, false] (by kernel_rfl) rfl rfl (HXC.out) (fun hHeld => ?_)
    have hHX := hHeld
    have HSD := Aside0.mk (show wr.drew.heap.size = wr.heap.size from rfl)
    generalize wr.drew = wd at HBD HXC HSD hHeld hHX ⊢
    refine pure_ (i := 1) (N := some 33) (v := ?_) (a' := ?_) #[false, true, false, false, false, false, false, false, false, false, false, false, false, false, false, false, false, false] rfl rfl (by kernel_rfl) (fun _ _ _ h => h) (Or.inl ⟨by rfl, ?_⟩) ?_ ?_
    rotate_left
    · intro w'
      go_simp
      with_reducible rfl
    rotate_left
    · simp only [Act.put, List.setIfInBounds_toArray, List.set_cons_zero, List.set_cons_succ, i64_w, i32_w]
      rfl
    refine pure_ (i := 2) (N := some 34) (v := ?_) (a' := ?_) #[false, true, true, false, false, false, false, false, false, false, false, false, false, false, false, false, false, false] rfl rfl (by kernel_rfl) (fun _ _ _ h => h) (Or.inl ⟨by rfl, ?_⟩) ?_ ?_
    rotate_left
    · intro w'
      go_simp
      with_reducible rfl
    rotate_left
    · simp only [Act.put, List.setIfInBounds_toArray, List.set_cons_zero, List.set_cons_succ, i64_w, i32_w]
      rfl
    refine pure_ (i := 3) (N := some 35) (v := ?_) (a' := ?_) #[false, true, true, true, false, false, false, false, false, false, false, false, false, false, false, false, false, false] rfl rfl (by kernel_rfl) (fun _ _ _ h => h) (Or.inl ⟨by rfl, ?_⟩) ?_ ?_
    rotate_left
    · intro w'
      go_simp
      with_reducible rfl
    rotate_left
    · simp only [Act.put, List.setIfInBounds_toArray, List.set_cons_zero, List.set_cons_succ, i64_w, i32_w]
      rfl
    refine pure_ (i := 8) (N := some 40) (v := ?_) (a' := ?_) #[false, true, true, true, false, false, false, false, true, false, false, false, false, false, false, false, false, false] rfl rfl (by kernel_rfl) (fun _ _ _ h => h) (Or.inl ⟨by rfl, ?_⟩) ?_ ?_
    rotate_left
    · intro w'
      go_simp
      with_reducible rfl
    rotate_left
    · simp only [Act.put, List.setIfInBounds_toArray, List.set_cons_zero, List.set_cons_succ, i64_w, i32_w]
      rfl
    refine pure_ (i := 9) (N := some 41) (v := ?_) (a' := ?_) #[false, true, true, true, false, false, false, false, true, true, false, false, false, false, false, false, false, false] rfl rfl (by kernel_rfl) (fun _ _ _ h => h) (Or.inl ⟨by rfl, ?_⟩) ?_ ?_
    rotate_left
    · intro w'
      go_simp
      with_reducible rfl
    rotate_left
    · simp only [Act.put, List.setIfInBounds_toArray, List.set_cons_zero, List.set_cons_succ, i64_w, i32_w]
      rfl
    refine pure_ (i := 10) (N := some 42) (v := ?_) (a' := ?_) #[false, true, true, true, false, false, false, false, true, true, true, false, false, false, false, false, false, false] rfl rfl (by kernel_rfl) (fun _ _ _ h => h) (Or.inl ⟨by rfl, ?_⟩) ?_ ?_
    rotate_left
    · intro w'
      go_simp
      with_reducible rfl
    rotate_left
    · simp only [Act.put, List.setIfInBounds_toArray, List.set_cons_zero, List.set_cons_succ, i64_w, i32_w]
      rfl
    refine take_ (i := 4) (N := some 36) (v := ?_) (a' := ?_) #[false, true, true, true, true, false, false, false, true, true, true, false, false, false, false, false, false, false] rfl rfl (by kernel_rfl) (fun _ _ _ h => h) (Or.inl ⟨by rfl, ?_⟩) hHeld ?_ ?_
    rotate_left
    · intro w' s0
      go_simp
      with_reducible rfl
    rotate_left
    · simp only [Act.put, List.setIfInBounds_toArray, List.set_cons_zero, List.set_cons_succ, i64_w, i32_w]
      rfl
    refine take_ (i := 11) (N := some 43) (v := ?_) (a' := ?_) #[false, true, true, true, true, false, false, false, true, true, true, true, false, false, false, false, false, false] rfl rfl (by kernel_rfl) (fun _ _ _ h => h) (Or.inl ⟨by rfl, ?_⟩) hHeld ?_ ?_
    rotate_left
    · intro w' s0
      go_simp
      with_reducible rfl
    rotate_left
    · simp only [Act.put, List.setIfInBounds_toArray, List.set_cons_zero, List.set_cons_succ, i64_w, i32_w]
      rfl
    refine pure_ (i := 12) (N := some 44) (v := ?_) (a' := ?_) #[false, true, true, true, true, false, false, false, true, true, true, true, true, false, false, false, false, false] rfl rfl (by kernel_rfl) (fun _ _ _ h => h) (Or.inl ⟨by rfl, ?_⟩) ?_ ?_
    rotate_left
    · intro w'
      go_simp
      with_reducible rfl
    rotate_left
    · simp only [Act.put, List.setIfInBounds_toArray, List.set_cons_zero, List.set_cons_succ, i64_w, i32_w]
      rfl
    refine join_ (σ := Value × Int × Value × Int × Value × Value × Value × Nat) 1 #[true, true, true, true, true, true, true, true, true, true, true, true, true, true, true, true, true, false] (fun s => [(32, s.1), (37, Value.int .i64 s.2.1), (38, s.2.2.1), (39, Value.int .i64 s.2.2.2.1), (45, s.2.2.2.2.1), (46, s.2.2.2.2.2.1), (47, s.2.2.2.2.2.2.1), (9, Value.pointer (some ⟨s.2.2.2.2.2.2.2, 0, none⟩))]) (fun s w' => Below wd.heap.size wd w' ∧ (s.2.2.2.1 = 2 ∨ s.2.2.2.1 = 4 ∨ s.2.2.2.1 = 1) ∧ (∃ Am cm, s.2.2.2.2.2.2.1 = .agg #[.int .i64 s.2.2.2.1, .int .i64 0, .int .i64 0, .string ⟨#[]⟩, .slice Am ms.length cm, .int .i64 0] ∧ Kd.R (Kd.int .i64) 3 w' wd.heap.size (fun _ => True) (.slice Am ms.length cm) ms) ∧ w'.heap[s.2.2.2.2.2.2.2]? = some (.cells #[.int .i64 0, .int .i64 0, .int .i64 0, .string ⟨#[]⟩, .slice none 0 0, .int .i64 0] 77 (0, 0)) ∧ wd.heap.size ≤ s.2.2.2.2.2.2.2) ?_ ?_
    rotate_left
    · intro hCont
      refine three_ (i := 0) (j := 5) (k := 16) (Ni := some 32) (Nj := some 37) (Nk := some 9) #[true, true, true, true, true, false, false, false, true, true, true, true, true, false, false, false, false, false] #[false, true, true, true, true, true, false, false, true, true, true, true, true, false, false, false, false, false] #[false, true, true, true, true, false, false, false, true, true, true, true, true, false, false, false, true, false] rfl rfl rfl rfl rfl rfl (by kernel_rfl) (by decide) (by decide) (by decide) (fun K hK => ?_) (fun K hK => ?_) (fun K hK => ?_)
      · skip
        refine Kd.R_lit_step (Kd.int .i64) (w0 := wd) wd.heap.size 3 (by rfl) (N := 32) rfl (xs := [2, 4, 1]) (inner := [.int .i64 2, .int .i64 4, .int .i64 1]) (ok := fun _ => True) (okp := fun _ => False) ?hr (Reps.cons_ (show (Kd.int .i64).M _ _ _ (2 : Int) [.int .i64 2] from rfl) rfl (Reps.cons_ (show (Kd.int .i64).M _ _ _ (4 : Int) [.int .i64 4] from rfl) rfl (Reps.cons_ (show (Kd.int .i64).M _ _ _ (1 : Int) [.int .i64 1] from rfl) rfl (Reps.none _ _)))) (fun _ h => h.elim) trivial (Below.refl _ _) (Nat.le_refl _) (by simp) ?_
        (case hr => first | (go_simp; done) | (go_simp; rfl))
        intro v0 x0 r_ hs_ g_ n_
        have HSx0 := Aside0.mk hs_
        have HBx0 := Aside0.mk (below_then (Below.refl _ _) (Nat.le_refl _) hs_ : Below wd.heap.size wd x0)
        obtain ⟨g0, cap0, e0_, _⟩ := Kd.R_form r_ (by simp)
        have e1_ : v0 = .slice (some ⟨g0, 0, none⟩) 3 cap0 := e0_
        subst e1_
        have HR0 := Aside0.mk (Kd.R_reads' r_).2.2
        clear r_ hs_ g_ n_ e0_
        refine hK.out _ _ (pw_cell_below HSx0.out hHeld) (fun hHeld => ?_)
        clear hK K
        refine norm_ (a' := ?_) ?_ ?_
        rotate_left
        · show Act.put _ (some 32) _ = _
          simp only [Act.put, List.setIfInBounds_toArray, List.set_cons_zero, List.set_cons_succ, i64_w, i32_w]
          rfl
        refine two_ (i := 5) (j := 16) (Ni := some 37) (Nj := some 9) #[true, true, true, true, true, true, false, false, true, true, true, true, true, false, false, false, false, false] #[true, true, true, true, true, false, false, false, true, true, true, true, true, false, false, false, true, false] rfl rfl rfl rfl (by kernel_rfl) (by decide) (by decide) (fun K hK => ?_) (fun K hK => ?_)
        · skip
          refine goes_ Try.func34 (by kernel_rfl) rfl #[.int .i64 nv, .int .i64 3] (by rfl) rfl rfl (by simp only [List.map_toArray, List.map_cons, List.map_nil]; rfl) ?_
          with_reducible refine (within_below nv 3 _ (by omega) (by omega)).mono ?_
          rintro e_ x5 ⟨u, rfl, hs_, hu0, hu1⟩
          refine ⟨_, rfl, ?_⟩
          have HSx5 := Aside0.mk hs_
          have HBx5 := Aside0.mk (below_then HBx0.out HBx0.out.size hs_ : Below wd.heap.size wd x5)
          have hqu0 := eq_true hu0
          have hqu1 := eq_true hu1
          clear hs_
          refine hK.out _ _ (pw_cell_below HSx5.out hHeld) (fun hHeld => ?_)
          clear hK K
          refine norm_ (a' := ?_) ?_ ?_
          rotate_left
          · show Act.put _ (some 37) _ = _
            simp only [Act.put, List.setIfInBounds_toArray, List.set_cons_zero, List.set_cons_succ, i64_w, i32_w]
            rfl
          refine pure_ (i := 6) (N := some 38) (v := ?_) (a' := ?_) #[true, true, true, true, true, true, true, false, true, true, true, true, true, false, false, false, false, false] rfl rfl (by kernel_rfl) (fun _ _ _ h => h) (Or.inl ⟨by rfl, ?_⟩) ?_ ?_
          rotate_left
          · intro w'
            go_simp
            with_reducible rfl
          rotate_left
          · simp only [Act.put, List.setIfInBounds_toArray, List.set_cons_zero, List.set_cons_succ, i64_w, i32_w]
            rfl
          refine three_ (i := 7) (j := 13) (k := 16) (Ni := some 39) (Nj := some 45) (Nk := some 9) #[true, true, true, true, true, true, true, true, true, true, true, true, true, false, false, false, false, false] #[true, true, true, true, true, true, true, false, true, true, true, true, true, true, false, false, false, false] #[true, true, true, true, true, true, true, false, true, true, true, true, true, false, false, false, true, false] rfl rfl rfl rfl rfl rfl (by kernel_rfl) (by decide) (by decide) (by decide) (fun K hK => ?_) (fun K hK => ?_) (fun K hK => ?_)
          · skip
            obtain ⟨ad7, e7_, hc7⟩ := Kd.at_int (Kd.C_below HR0.out HSx5.out) u hu0 (by simpa using hu1)
            injection e7_ with e7_
            subst e7_
            try rw [add_plain] at hc7
            refine value_ (w1 := ?_) (v := ?_) (by rfl) rfl ?_ ?_
            rotate_left 2
            · go_simp
              constructor
              · rfl
              · rfl
            refine hK.out _ _ (hHeld) (fun hHeld => ?_)
            clear hK K
            refine norm_ (a' := ?_) ?_ ?_
            rotate_left
            · show Act.put _ (some 39) _ = _
              simp only [Act.put, List.setIfInBounds_toArray, List.set_cons_zero, List.set_cons_succ, i64_w, i32_w]
              rfl
            refine two_ (i := 13) (j := 16) (Ni := some 45) (Nj := some 9) #[true, true, true, true, true, true, true, true, true, true, true, true, true, true, false, false, false, false] #[true, true, true, true, true, true, true, true, true, true, true, true, true, false, false, false, true, false] rfl rfl rfl rfl (by kernel_rfl) (by decide) (by decide) (fun K hK => ?_) (fun K hK => ?_)
            · skip
              refine goes_ Try.func51 (by kernel_rfl) rfl #[.int .i64 (wrap64 (nv.tdiv 3))] (by rfl) rfl rfl (by simp only [List.map_toArray, List.map_cons, List.map_nil]; rfl) ?_
              with_reducible refine (synodallaw8_List.calls 20 (wrap64 (nv.tdiv 3)) ms _ HMS.out).mono ?_
              rintro e_ x13 ⟨v13, rfl, r_, hs_⟩
              refine ⟨_, rfl, ?_⟩
              have HSx13 := Aside0.mk hs_
              have HBx13 := Aside0.mk (below_then HBx5.out HBx5.out.size hs_ : Below wd.heap.size wd x13)
              obtain ⟨Al, cl, e1_⟩ := Kd.R_slice r_
              subst e1_
              have HOx13 := Aside0.mk (Kd.R_lower r_ HBx5.out.size : Kd.R (Kd.int .i64) 3 x13 wd.heap.size (fun _ => True) (.slice Al ms.length cl) ms)
              clear r_ hs_
              refine hK.out _ _ (pw_cell_below HSx13.out hHeld) (fun hHeld => ?_)
              clear hK K
              refine norm_ (a' := ?_) ?_ ?_
              rotate_left
              · show Act.put _ (some 45) _ = _
                simp only [Act.put, List.setIfInBounds_toArray, List.set_cons_zero, List.set_cons_succ, i64_w, i32_w]
                rfl
              refine pure_ (i := 14) (N := some 46) (v := ?_) (a' := ?_) #[true, true, true, true, true, true, true, true, true, true, true, true, true, true, true, false, false, false] rfl rfl (by kernel_rfl) (fun _ _ _ h => h) (Or.inl ⟨by rfl, ?_⟩) ?_ ?_
              rotate_left
              · intro w'
                go_simp
                with_reducible rfl
              rotate_left
              · simp only [Act.put, List.setIfInBounds_toArray, List.set_cons_zero, List.set_cons_succ, i64_w, i32_w]
                rfl
              refine two_ (i := 15) (j := 16) (Ni := some 47) (Nj := some 9) #[true, true, true, true, true, true, true, true, true, true, true, true, true, true, true, true, false, false] #[true, true, true, true, true, true, true, true, true, true, true, true, true, true, true, false, true, false] rfl rfl rfl rfl (by kernel_rfl) (by decide) (by decide) (fun K hK => ?_) (fun K hK => ?_)
              · skip
                have hg15 := synodallaw2_Good.calls 5 (rd [2, 4, 1] u) 0 0 ⟨#[]⟩ _ (.slice Al ms.length cl) ms 0 (rd [2, 4, 1] u) 0 0 ⟨#[]⟩ ms 0 wd x13 HBx13.out (Kd.R_tight rfl HOx13.out) (good_e (rd [2, 4, 1] u) ms (kd_cases u hu0 hu1) HM7.out)
                refine goes_ Try.func50 (by kernel_rfl) rfl #[.agg #[.int .i64 (rd [2, 4, 1] u), .int .i64 0, .int .i64 0, .string ⟨#[]⟩, .slice Al ms.length cl, .int .i64 0]] (by rfl) rfl rfl (by simp only [List.map_toArray, List.map_cons, List.map_nil]; rfl) ?_
                with_reducible refine (hg15).mono ?_
                rintro e_ x15 ⟨v15, rfl, r_, hb15_, hk15_⟩
                refine ⟨_, rfl, ?_⟩
                have HBx15 := Aside0.mk hb15_
                have HKx15 := Aside0.mk hk15_
                obtain ⟨Am, cm, e1_⟩ := Kd.R_slice r_
                subst e1_
                have HR15 := Aside0.mk r_
                clear r_ hb15_ hk15_ hg15
                refine hK.out _ _ (pw_cell_below HBx15.out hHX) (fun hHeld => ?_)
                clear hK K
                refine norm_ (a' := ?_) ?_ ?_
                rotate_left
                · show Act.put _ (some 47) _ = _
                  simp only [Act.put, List.setIfInBounds_toArray, List.set_cons_zero, List.set_cons_succ, i64_w, i32_w]
                  rfl
                refine one_ (i := 16) (N := some 9) #[true, true, true, true, true, true, true, true, true, true, true, true, true, true, true, true, true, false] rfl rfl (by kernel_rfl) (by decide) (fun K hK => ?_)
                refine value_ (w1 := ?_) (v := ?_) (by rfl) rfl ?_ ?_
                rotate_left 2
                · go_simp
                  constructor
                  · rfl
                  · rfl
                generalize hx_ : World.alloc x15 _ = x16
                have hs_ : Below x15.heap.size x15 x16 := by rw [← hx_]; exact below_alloc (Below.refl _ _) _
                have hh_ : x16.heap[x15.heap.size]? = some (.cells #[.int .i64 0, .int .i64 0, .int .i64 0, .string ⟨#[]⟩, .slice none 0 0, .int .i64 0] 77 (0, 0)) := by rw [← hx_]; exact heap_alloc_new _ _
                obtain ⟨g9, hg9_⟩ : ∃ q, x15.heap.size = q := ⟨_, rfl⟩
                rw [hg9_] at hh_
                try rw [hg9_]
                have HG9 := Aside0.mk (show wd.heap.size ≤ g9 by rw [← hg9_]; exact HBx15.out.size)
                have HSx16 := Aside0.mk hs_
                have HBx16 := Aside0.mk (below_then HBx15.out HBx15.out.size hs_ : Below wd.heap.size wd x16)
                have HH9 := Aside0.mk hh_
                clear hx_ hs_ hh_ hg9_
                refine hK.out _ _ (pw_cell_below HSx16.out hHeld) (fun hHeld => ?_)
                clear hK K
                refine norm_ (a' := ?_) ?_ ?_
                rotate_left
                · show Act.put _ (some 9) _ = _
                  simp only [Act.put, List.setIfInBounds_toArray, List.set_cons_zero, List.set_cons_succ, i64_w, i32_w]
                  rfl
                exact norm_ (by simp only [putAll, Act.put, List.setIfInBounds_toArray, List.set_cons_zero, List.set_cons_succ]) (hCont ((Value.slice (some ⟨g0, 0, none⟩) 3 cap0), u, (Value.pointer (some ⟨g0, u.toNat, none⟩)), (rd [2, 4, 1] u), (Value.slice Al ms.length cl), (Value.agg #[.int .i64 (rd [2, 4, 1] u), .int .i64 0, .int .i64 0, .string ⟨#[]⟩, .slice Al ms.length cl, .int .i64 0]), (Value.agg #[.int .i64 (rd [2, 4, 1] u), .int .i64 0, .int .i64 0, .string ⟨#[]⟩, .slice Am ms.length cm, .int .i64 0]), g9) _ ⟨HBx16.out, kd_cases u hu0 hu1, ⟨Am, cm, rfl, Kd.R_mono (Kd.R_below HR15.out HSx16.out) (fun _ _ => trivial)⟩, HH9.out, HG9.out⟩)
              · skip
                refine value_ (w1 := ?_) (v := ?_) (by rfl) rfl ?_ ?_
                rotate_left 2
                · go_simp
                  constructor
                  · rfl
                  · rfl
                generalize hx_ : World.alloc x13 _ = x16
                have hs_ : Below x13.heap.size x13 x16 := by rw [← hx_]; exact below_alloc (Below.refl _ _) _
                have hh_ : x16.heap[x13.heap.size]? = some (.cells #[.int .i64 0, .int .i64 0, .int .i64 0, .string ⟨#[]⟩, .slice none 0 0, .int .i64 0] 77 (0, 0)) := by rw [← hx_]; exact heap_alloc_new _ _
                obtain ⟨g9, hg9_⟩ : ∃ q, x13.heap.size = q := ⟨_, rfl⟩
                rw [hg9_] at hh_
                try rw [hg9_]
                have HG9 := Aside0.mk (show wd.heap.size ≤ g9 by rw [← hg9_]; exact HBx13.out.size)
                have HSx16 := Aside0.mk hs_
                have HBx16 := Aside0.mk (below_then HBx13.out HBx13.out.size hs_ : Below wd.heap.size wd x16)
                have HH9 := Aside0.mk hh_
                clear hx_ hs_ hh_ hg9_
                refine hK.out _ _ (pw_cell_below HSx16.out hHeld) (fun hHeld => ?_)
                clear hK K
                refine norm_ (a' := ?_) ?_ ?_
                rotate_left
                · show Act.put _ (some 9) _ = _
                  simp only [Act.put, List.setIfInBounds_toArray, List.set_cons_zero, List.set_cons_succ, i64_w, i32_w]
                  rfl
                refine one_ (i := 15) (N := some 47) #[true, true, true, true, true, true, true, true, true, true, true, true, true, true, true, true, true, false] rfl rfl (by kernel_rfl) (by decide) (fun K hK => ?_)
                have hg15 := synodallaw2_Good.calls 5 (rd [2, 4, 1] u) 0 0 ⟨#[]⟩ _ (.slice Al ms.length cl) ms 0 (rd [2, 4, 1] u) 0 0 ⟨#[]⟩ ms 0 wd x16 HBx16.out (Kd.R_tight rfl (Kd.R_below HOx13.out HSx16.out)) (good_e (rd [2, 4, 1] u) ms (kd_cases u hu0 hu1) HM7.out)
                refine goes_ Try.func50 (by kernel_rfl) rfl #[.agg #[.int .i64 (rd [2, 4, 1] u), .int .i64 0, .int .i64 0, .string ⟨#[]⟩, .slice Al ms.length cl, .int .i64 0]] (by rfl) rfl rfl (by simp only [List.map_toArray, List.map_cons, List.map_nil]; rfl) ?_
                with_reducible refine (hg15).mono ?_
                rintro e_ x15 ⟨v15, rfl, r_, hb15_, hk15_⟩
                refine ⟨_, rfl, ?_⟩
                have HBx15 := Aside0.mk hb15_
                have HKx15 := Aside0.mk hk15_
                obtain ⟨Am, cm, e1_⟩ := Kd.R_slice r_
                subst e1_
                have HR15 := Aside0.mk r_
                clear r_ hb15_ hk15_ hg15
                refine hK.out _ _ (pw_cell_below HBx15.out hHX) (fun hHeld => ?_)
                clear hK K
                refine norm_ (a' := ?_) ?_ ?_
                rotate_left
                · show Act.put _ (some 47) _ = _
                  simp only [Act.put, List.setIfInBounds_toArray, List.set_cons_zero, List.set_cons_succ, i64_w, i32_w]
                  rfl
                exact norm_ (by simp only [putAll, Act.put, List.setIfInBounds_toArray, List.set_cons_zero, List.set_cons_succ]) (hCont ((Value.slice (some ⟨g0, 0, none⟩) 3 cap0), u, (Value.pointer (some ⟨g0, u.toNat, none⟩)), (rd [2, 4, 1] u), (Value.slice Al ms.length cl), (Value.agg #[.int .i64 (rd [2, 4, 1] u), .int .i64 0, .int .i64 0, .string ⟨#[]⟩, .slice Al ms.length cl, .int .i64 0]), (Value.agg #[.int .i64 (rd [2, 4, 1] u), .int .i64 0, .int .i64 0, .string ⟨#[]⟩, .slice Am ms.length cm, .int .i64 0]), g9) _ ⟨HBx15.out, kd_cases u hu0 hu1, ⟨Am, cm, rfl, Kd.R_mono HR15.out (fun _ _ => trivial)⟩, ((HKx15.out.2 _ (blk_lt HH9.out) (fun he_ => own_ne (Kd.own_of_R (Kd.R_below HOx13.out HSx16.out)) HH9.out (by decide) he_)).trans HH9.out), HG9.out⟩)
            · skip
              refine value_ (w1 := ?_) (v := ?_) (by rfl) rfl ?_ ?_
              rotate_left 2
              · go_simp
                constructor
                · rfl
                · rfl
              generalize hx_ : World.alloc x5 _ = x16
              have hs_ : Below x5.heap.size x5 x16 := by rw [← hx_]; exact below_alloc (Below.refl _ _) _
              have hh_ : x16.heap[x5.heap.size]? = some (.cells #[.int .i64 0, .int .i64 0, .int .i64 0, .string ⟨#[]⟩, .slice none 0 0, .int .i64 0] 77 (0, 0)) := by rw [← hx_]; exact heap_alloc_new _ _
              obtain ⟨g9, hg9_⟩ : ∃ q, x5.heap.size = q := ⟨_, rfl⟩
              rw [hg9_] at hh_
              try rw [hg9_]
              have HG9 := Aside0.mk (show wd.heap.size ≤ g9 by rw [← hg9_]; exact HBx5.out.size)
              have HSx16 := Aside0.mk hs_
              have HBx16 := Aside0.mk (below_then HBx5.out HBx5.out.size hs_ : Below wd.heap.size wd x16)
              have HH9 := Aside0.mk hh_
              clear hx_ hs_ hh_ hg9_
              refine hK.out _ _ (pw_cell_below HSx16.out hHeld) (fun hHeld => ?_)
              clear hK K
              refine norm_ (a' := ?_) ?_ ?_
              rotate_left
              · show Act.put _ (some 9) _ = _
                simp only [Act.put, List.setIfInBounds_toArray, List.set_cons_zero, List.set_cons_succ, i64_w, i32_w]
                rfl
              refine one_ (i := 13) (N := some 45) #[true, true, true, true, true, true, true, true, true, true, true, true, true, true, false, false, true, false] rfl rfl (by kernel_rfl) (by decide) (fun K hK => ?_)
              refine goes_ Try.func51 (by kernel_rfl) rfl #[.int .i64 (wrap64 (nv.tdiv 3))] (by rfl) rfl rfl (by simp only [List.map_toArray, List.map_cons, List.map_nil]; rfl) ?_
              with_reducible refine (synodallaw8_List.calls 20 (wrap64 (nv.tdiv 3)) ms _ HMS.out).mono ?_
              rintro e_ x13 ⟨v13, rfl, r_, hs_⟩
              refine ⟨_, rfl, ?_⟩
              have HSx13 := Aside0.mk hs_
              have HBx13 := Aside0.mk (below_then HBx16.out HBx16.out.size hs_ : Below wd.heap.size wd x13)
              obtain ⟨Al, cl, e1_⟩ := Kd.R_slice r_
              subst e1_
              have HOx13 := Aside0.mk (Kd.R_lower r_ HBx16.out.size : Kd.R (Kd.int .i64) 3 x13 wd.heap.size (fun _ => True) (.slice Al ms.length cl) ms)
              clear r_ hs_
              refine hK.out _ _ (pw_cell_below HSx13.out hHeld) (fun hHeld => ?_)
              clear hK K
              refine norm_ (a' := ?_) ?_ ?_
              rotate_left
              · show Act.put _ (some 45) _ = _
                simp only [Act.put, List.setIfInBounds_toArray, List.set_cons_zero, List.set_cons_succ, i64_w, i32_w]
                rfl
              refine pure_ (i := 14) (N := some 46) (v := ?_) (a' := ?_) #[true, true, true, true, true, true, true, true, true, true, true, true, true, true, true, false, true, false] rfl rfl (by kernel_rfl) (fun _ _ _ h => h) (Or.inl ⟨by rfl, ?_⟩) ?_ ?_
              rotate_left
              · intro w'
                go_simp
                with_reducible rfl
              rotate_left
              · simp only [Act.put, List.setIfInBounds_toArray, List.set_cons_zero, List.set_cons_succ, i64_w, i32_w]
                rfl
              refine one_ (i := 15) (N := some 47) #[true, true, true, true, true, true, true, true, true, true, true, true, true, true, true, true, true, false] rfl rfl (by kernel_rfl) (by decide) (fun K hK => ?_)
              have hg15 := synodallaw2_Good.calls 5 (rd [2, 4, 1] u) 0 0 ⟨#[]⟩ _ (.slice Al ms.length cl) ms 0 (rd [2, 4, 1] u) 0 0 ⟨#[]⟩ ms 0 wd x13 HBx13.out (Kd.R_tight rfl HOx13.out) (good_e (rd [2, 4, 1] u) ms (kd_cases u hu0 hu1) HM7.out)
              refine goes_ Try.func50 (by kernel_rfl) rfl #[.agg #[.int .i64 (rd [2, 4, 1] u), .int .i64 0, .int .i64 0, .string ⟨#[]⟩, .slice Al ms.length cl, .int .i64 0]] (by rfl) rfl rfl (by simp only [List.map_toArray, List.map_cons, List.map_nil]; rfl) ?_
              with_reducible refine (hg15).mono ?_
              rintro e_ x15 ⟨v15, rfl, r_, hb15_, hk15_⟩
              refine ⟨_, rfl, ?_⟩
              have HBx15 := Aside0.mk hb15_
              have HKx15 := Aside0.mk hk15_
              obtain ⟨Am, cm, e1_⟩ := Kd.R_slice r_
              subst e1_
              have HR15 := Aside0.mk r_
              clear r_ hb15_ hk15_ hg15
              refine hK.out _ _ (pw_cell_below HBx15.out hHX) (fun hHeld => ?_)
              clear hK K
              refine norm_ (a' := ?_) ?_ ?_
              rotate_left
              · show Act.put _ (some 47) _ = _
                simp only [Act.put, List.setIfInBounds_toArray, List.set_cons_zero, List.set_cons_succ, i64_w, i32_w]
                rfl
              exact norm_ (by simp only [putAll, Act.put, List.setIfInBounds_toArray, List.set_cons_zero, List.set_cons_succ]) (hCont ((Value.slice (some ⟨g0, 0, none⟩) 3 cap0), u, (Value.pointer (some ⟨g0, u.toNat, none⟩)), (rd [2, 4, 1] u), (Value.slice Al ms.length cl), (Value.agg #[.int .i64 (rd [2, 4, 1] u), .int .i64 0, .int .i64 0, .string ⟨#[]⟩, .slice Al ms.length cl, .int .i64 0]), (Value.agg #[.int .i64 (rd [2, 4, 1] u), .int .i64 0, .int .i64 0, .string ⟨#[]⟩, .slice Am ms.length cm, .int .i64 0]), g9) _ ⟨HBx15.out, kd_cases u hu0 hu1, ⟨Am, cm, rfl, Kd.R_mono HR15.out (fun _ _ => trivial)⟩, ((HKx15.out.2 _ (blk_lt (blk_below HH9.out HSx13.out)) (fun he_ => own_ne (Kd.own_of_R HOx13.out) (blk_below HH9.out HSx13.out) (by decide) he_)).trans (blk_below HH9.out HSx13.out)), HG9.out⟩)
          · skip
            refine goes_ Try.func51 (by kernel_rfl) rfl #[.int .i64 (wrap64 (nv.tdiv 3))] (by rfl) rfl rfl (by simp only [List.map_toArray, List.map_cons, List.map_nil]; rfl) ?_
            with_reducible refine (synodallaw8_List.calls 20 (wrap64 (nv.tdiv 3)) ms _ HMS.out).mono ?_
            rintro e_ x13 ⟨v13, rfl, r_, hs_⟩
            refine ⟨_, rfl, ?_⟩
            have HSx13 := Aside0.mk hs_
            have HBx13 := Aside0.mk (below_then HBx5.out HBx5.out.size hs_ : Below wd.heap.size wd x13)
            obtain ⟨Al, cl, e1_⟩ := Kd.R_slice r_
            subst e1_
            have HOx13 := Aside0.mk (Kd.R_lower r_ HBx5.out.size : Kd.R (Kd.int .i64) 3 x13 wd.heap.size (fun _ => True) (.slice Al ms.length cl) ms)
            clear r_ hs_
            refine hK.out _ _ (pw_cell_below HSx13.out hHeld) (fun hHeld => ?_)
            clear hK K
            refine norm_ (a' := ?_) ?_ ?_
            rotate_left
            · show Act.put _ (some 45) _ = _
              simp only [Act.put, List.setIfInBounds_toArray, List.set_cons_zero, List.set_cons_succ, i64_w, i32_w]
              rfl
            refine two_ (i := 7) (j := 16) (Ni := some 39) (Nj := some 9) #[true, true, true, true, true, true, true, true, true, true, true, true, true, true, false, false, false, false] #[true, true, true, true, true, true, true, false, true, true, true, true, true, true, false, false, true, false] rfl rfl rfl rfl (by kernel_rfl) (by decide) (by decide) (fun K hK => ?_) (fun K hK => ?_)
            · skip
              obtain ⟨ad7, e7_, hc7⟩ := Kd.at_int (Kd.C_below (Kd.C_below HR0.out HSx5.out) HSx13.out) u hu0 (by simpa using hu1)
              injection e7_ with e7_
              subst e7_
              try rw [add_plain] at hc7
              refine value_ (w1 := ?_) (v := ?_) (by rfl) rfl ?_ ?_
              rotate_left 2
              · go_simp
                constructor
                · rfl
                · rfl
              refine hK.out _ _ (hHeld) (fun hHeld => ?_)
              clear hK K
              refine norm_ (a' := ?_) ?_ ?_
              rotate_left
              · show Act.put _ (some 39) _ = _
                simp only [Act.put, List.setIfInBounds_toArray, List.set_cons_zero, List.set_cons_succ, i64_w, i32_w]
                rfl
              refine pure_ (i := 14) (N := some 46) (v := ?_) (a' := ?_) #[true, true, true, true, true, true, true, true, true, true, true, true, true, true, true, false, false, false] rfl rfl (by kernel_rfl) (fun _ _ _ h => h) (Or.inl ⟨by rfl, ?_⟩) ?_ ?_
              rotate_left
              · intro w'
                go_simp
                with_reducible rfl
              rotate_left
              · simp only [Act.put, List.setIfInBounds_toArray, List.set_cons_zero, List.set_cons_succ, i64_w, i32_w]
                rfl
              refine two_ (i := 15) (j := 16) (Ni := some 47) (Nj := some 9) #[true, true, true, true, true, true, true, true, true, true, true, true, true, true, true, true, false, false] #[true, true, true, true, true, true, true, true, true, true, true, true, true, true, true, false, true, false] rfl rfl rfl rfl (by kernel_rfl) (by decide) (by decide) (fun K hK => ?_) (fun K hK => ?_)
              · skip
                have hg15 := synodallaw2_Good.calls 5 (rd [2, 4, 1] u) 0 0 ⟨#[]⟩ _ (.slice Al ms.length cl) ms 0 (rd [2, 4, 1] u) 0 0 ⟨#[]⟩ ms 0 wd x13 HBx13.out (Kd.R_tight rfl HOx13.out) (good_e (rd [2, 4, 1] u) ms (kd_cases u hu0 hu1) HM7.out)
                refine goes_ Try.func50 (by kernel_rfl) rfl #[.agg #[.int .i64 (rd [2, 4, 1] u), .int .i64 0, .int .i64 0, .string ⟨#[]⟩, .slice Al ms.length cl, .int .i64 0]] (by rfl) rfl rfl (by simp only [List.map_toArray, List.map_cons, List.map_nil]; rfl) ?_
                with_reducible refine (hg15).mono ?_
                rintro e_ x15 ⟨v15, rfl, r_, hb15_, hk15_⟩
                refine ⟨_, rfl, ?_⟩
                have HBx15 := Aside0.mk hb15_
                have HKx15 := Aside0.mk hk15_
                obtain ⟨Am, cm, e1_⟩ := Kd.R_slice r_
                subst e1_
                have HR15 := Aside0.mk r_
                clear r_ hb15_ hk15_ hg15
                refine hK.out _ _ (pw_cell_below HBx15.out hHX) (fun hHeld => ?_)
                clear hK K
                refine norm_ (a' := ?_) ?_ ?_
                rotate_left
                · show Act.put _ (some 47) _ = _
                  simp only [Act.put, List.setIfInBounds_toArray, List.set_cons_zero, List.set_cons_succ, i64_w, i32_w]
                  rfl
                refine one_ (i := 16) (N := some 9) #[true, true, true, true, true, true, true, true, true, true, true, true, true, true, true, true, true, false] rfl rfl (by kernel_rfl) (by decide) (fun K hK => ?_)
                refine value_ (w1 := ?_) (v := ?_) (by rfl) rfl ?_ ?_
                rotate_left 2
                · go_simp
                  constructor
                  · rfl
                  · rfl
                generalize hx_ : World.alloc x15 _ = x16
                have hs_ : Below x15.heap.size x15 x16 := by rw [← hx_]; exact below_alloc (Below.refl _ _) _
                have hh_ : x16.heap[x15.heap.size]? = some (.cells #[.int .i64 0, .int .i64 0, .int .i64 0, .string ⟨#[]⟩, .slice none 0 0, .int .i64 0] 77 (0, 0)) := by rw [← hx_]; exact heap_alloc_new _ _
                obtain ⟨g9, hg9_⟩ : ∃ q, x15.heap.size = q := ⟨_, rfl⟩
                rw [hg9_] at hh_
                try rw [hg9_]
                have HG9 := Aside0.mk (show wd.heap.size ≤ g9 by rw [← hg9_]; exact HBx15.out.size)
                have HSx16 := Aside0.mk hs_
                have HBx16 := Aside0.mk (below_then HBx15.out HBx15.out.size hs_ : Below wd.heap.size wd x16)
                have HH9 := Aside0.mk hh_
                clear hx_ hs_ hh_ hg9_
                refine hK.out _ _ (pw_cell_below HSx16.out hHeld) (fun hHeld => ?_)
                clear hK K
                refine norm_ (a' := ?_) ?_ ?_
                rotate_left
                · show Act.put _ (some 9) _ = _
                  simp only [Act.put, List.setIfInBounds_toArray, List.set_cons_zero, List.set_cons_succ, i64_w, i32_w]
                  rfl
                exact norm_ (by simp only [putAll, Act.put, List.setIfInBounds_toArray, List.set_cons_zero, List.set_cons_succ]) (hCont ((Value.slice (some ⟨g0, 0, none⟩) 3 cap0), u, (Value.pointer (some ⟨g0, u.toNat, none⟩)), (rd [2, 4, 1] u), (Value.slice Al ms.length cl), (Value.agg #[.int .i64 (rd [2, 4, 1] u), .int .i64 0, .int .i64 0, .string ⟨#[]⟩, .slice Al ms.length cl, .int .i64 0]), (Value.agg #[.int .i64 (rd [2, 4, 1] u), .int .i64 0, .int .i64 0, .string ⟨#[]⟩, .slice Am ms.length cm, .int .i64 0]), g9) _ ⟨HBx16.out, kd_cases u hu0 hu1, ⟨Am, cm, rfl, Kd.R_mono (Kd.R_below HR15.out HSx16.out) (fun _ _ => trivial)⟩, HH9.out, HG9.out⟩)
              · skip
                refine value_ (w1 := ?_) (v := ?_) (by rfl) rfl ?_ ?_
                rotate_left 2
                · go_simp
                  constructor
                  · rfl
                  · rfl
                generalize hx_ : World.alloc x13 _ = x16
                have hs_ : Below x13.heap.size x13 x16 := by rw [← hx_]; exact below_alloc (Below.refl _ _) _
                have hh_ : x16.heap[x13.heap.size]? = some (.cells #[.int .i64 0, .int .i64 0, .int .i64 0, .string ⟨#[]⟩, .slice none 0 0, .int .i64 0] 77 (0, 0)) := by rw [← hx_]; exact heap_alloc_new _ _
                obtain ⟨g9, hg9_⟩ : ∃ q, x13.heap.size = q := ⟨_, rfl⟩
                rw [hg9_] at hh_
                try rw [hg9_]
                have HG9 := Aside0.mk (show wd.heap.size ≤ g9 by rw [← hg9_]; exact HBx13.out.size)
                have HSx16 := Aside0.mk hs_
                have HBx16 := Aside0.mk (below_then HBx13.out HBx13.out.size hs_ : Below wd.heap.size wd x16)
                have HH9 := Aside0.mk hh_
                clear hx_ hs_ hh_ hg9_
                refine hK.out _ _ (pw_cell_below HSx16.out hHeld) (fun hHeld => ?_)
                clear hK K
                refine norm_ (a' := ?_) ?_ ?_
                rotate_left
                · show Act.put _ (some 9) _ = _
                  simp only [Act.put, List.setIfInBounds_toArray, List.set_cons_zero, List.set_cons_succ, i64_w, i32_w]
                  rfl
                refine one_ (i := 15) (N := some 47) #[true, true, true, true, true, true, true, true, true, true, true, true, true, true, true, true, true, false] rfl rfl (by kernel_rfl) (by decide) (fun K hK => ?_)
                have hg15 := synodallaw2_Good.calls 5 (rd [2, 4, 1] u) 0 0 ⟨#[]⟩ _ (.slice Al ms.length cl) ms 0 (rd [2, 4, 1] u) 0 0 ⟨#[]⟩ ms 0 wd x16 HBx16.out (Kd.R_tight rfl (Kd.R_below HOx13.out HSx16.out)) (good_e (rd [2, 4, 1] u) ms (kd_cases u hu0 hu1) HM7.out)
                refine goes_ Try.func50 (by kernel_rfl) rfl #[.agg #[.int .i64 (rd [2, 4, 1] u), .int .i64 0, .int .i64 0, .string ⟨#[]⟩, .slice Al ms.length cl, .int .i64 0]] (by rfl) rfl rfl (by simp only [List.map_toArray, List.map_cons, List.map_nil]; rfl) ?_
                with_reducible refine (hg15).mono ?_
                rintro e_ x15 ⟨v15, rfl, r_, hb15_, hk15_⟩
                refine ⟨_, rfl, ?_⟩
                have HBx15 := Aside0.mk hb15_
                have HKx15 := Aside0.mk hk15_
                obtain ⟨Am, cm, e1_⟩ := Kd.R_slice r_
                subst e1_
                have HR15 := Aside0.mk r_
                clear r_ hb15_ hk15_ hg15
                refine hK.out _ _ (pw_cell_below HBx15.out hHX) (fun hHeld => ?_)
                clear hK K
                refine norm_ (a' := ?_) ?_ ?_
                rotate_left
                · show Act.put _ (some 47) _ = _
                  simp only [Act.put, List.setIfInBounds_toArray, List.set_cons_zero, List.set_cons_succ, i64_w, i32_w]
                  rfl
                exact norm_ (by simp only [putAll, Act.put, List.setIfInBounds_toArray, List.set_cons_zero, List.set_cons_succ]) (hCont ((Value.slice (some ⟨g0, 0, none⟩) 3 cap0), u, (Value.pointer (some ⟨g0, u.toNat, none⟩)), (rd [2, 4, 1] u), (Value.slice Al ms.length cl), (Value.agg #[.int .i64 (rd [2, 4, 1] u), .int .i64 0, .int .i64 0, .string ⟨#[]⟩, .slice Al ms.length cl, .int .i64 0]), (Value.agg #[.int .i64 (rd [2, 4, 1] u), .int .i64 0, .int .i64 0, .string ⟨#[]⟩, .slice Am ms.length cm, .int .i64 0]), g9) _ ⟨HBx15.out, kd_cases u hu0 hu1, ⟨Am, cm, rfl, Kd.R_mono HR15.out (fun _ _ => trivial)⟩, ((HKx15.out.2 _ (blk_lt HH9.out) (fun he_ => own_ne (Kd.own_of_R (Kd.R_below HOx13.out HSx16.out)) HH9.out (by decide) he_)).trans HH9.out), HG9.out⟩)
            · skip
              refine value_ (w1 := ?_) (v := ?_) (by rfl) rfl ?_ ?_
              rotate_left 2
              · go_simp
                constructor
                · rfl
                · rfl
              generalize hx_ : World.alloc x13 _ = x16
              have hs_ : Below x13.heap.size x13 x16 := by rw [← hx_]; exact below_alloc (Below.refl _ _) _
              have hh_ : x16.heap[x13.heap.size]? = some (.cells #[.int .i64 0, .int .i64 0, .int .i64 0, .string ⟨#[]⟩, .slice none 0 0, .int .i64 0] 77 (0, 0)) := by rw [← hx_]; exact heap_alloc_new _ _
              obtain ⟨g9, hg9_⟩ : ∃ q, x13.heap.size = q := ⟨_, rfl⟩
              rw [hg9_] at hh_
              try rw [hg9_]
              have HG9 := Aside0.mk (show wd.heap.size ≤ g9 by rw [← hg9_]; exact HBx13.out.size)
              have HSx16 := Aside0.mk hs_
              have HBx16 := Aside0.mk (below_then HBx13.out HBx13.out.size hs_ : Below wd.heap.size wd x16)
              have HH9 := Aside0.mk hh_
              clear hx_ hs_ hh_ hg9_
              refine hK.out _ _ (pw_cell_below HSx16.out hHeld) (fun hHeld => ?_)
              clear hK K
              refine norm_ (a' := ?_) ?_ ?_
              rotate_left
              · show Act.put _ (some 9) _ = _
                simp only [Act.put, List.setIfInBounds_toArray, List.set_cons_zero, List.set_cons_succ, i64_w, i32_w]
                rfl
              refine one_ (i := 7) (N := some 39) #[true, true, true, true, true, true, true, true, true, true, true, true, true, true, false, false, true, false] rfl rfl (by kernel_rfl) (by decide) (fun K hK => ?_)
              obtain ⟨ad7, e7_, hc7⟩ := Kd.at_int (Kd.C_below (Kd.C_below (Kd.C_below HR0.out HSx5.out) HSx13.out) HSx16.out) u hu0 (by simpa using hu1)
              injection e7_ with e7_
              subst e7_
              try rw [add_plain] at hc7
              refine value_ (w1 := ?_) (v := ?_) (by rfl) rfl ?_ ?_
              rotate_left 2
              · go_simp
                constructor
                · rfl
                · rfl
              refine hK.out _ _ (hHeld) (fun hHeld => ?_)
              clear hK K
              refine norm_ (a' := ?_) ?_ ?_
              rotate_left
              · show Act.put _ (some 39) _ = _
                simp only [Act.put, List.setIfInBounds_toArray, List.set_cons_zero, List.set_cons_succ, i64_w, i32_w]
                rfl
              refine pure_ (i := 14) (N := some 46) (v := ?_) (a' := ?_) #[true, true, true, true, true, true, true, true, true, true, true, true, true, true, true, false, true, false] rfl rfl (by kernel_rfl) (fun _ _ _ h => h) (Or.inl ⟨by rfl, ?_⟩) ?_ ?_
              rotate_left
              · intro w'
                go_simp
                with_reducible rfl
              rotate_left
              · simp only [Act.put, List.setIfInBounds_toArray, List.set_cons_zero, List.set_cons_succ, i64_w, i32_w]
                rfl
              refine one_ (i := 15) (N := some 47) #[true, true, true, true, true, true, true, true, true, true, true, true, true, true, true, true, true, false] rfl rfl (by kernel_rfl) (by decide) (fun K hK => ?_)
              have hg15 := synodallaw2_Good.calls 5 (rd [2, 4, 1] u) 0 0 ⟨#[]⟩ _ (.slice Al ms.length cl) ms 0 (rd [2, 4, 1] u) 0 0 ⟨#[]⟩ ms 0 wd x16 HBx16.out (Kd.R_tight rfl (Kd.R_below HOx13.out HSx16.out)) (good_e (rd [2, 4, 1] u) ms (kd_cases u hu0 hu1) HM7.out)
              refine goes_ Try.func50 (by kernel_rfl) rfl #[.agg #[.int .i64 (rd [2, 4, 1] u), .int .i64 0, .int .i64 0, .string ⟨#[]⟩, .slice Al ms.length cl, .int .i64 0]] (by rfl) rfl rfl (by simp only [List.map_toArray, List.map_cons, List.map_nil]; rfl) ?_
              with_reducible refine (hg15).mono ?_
              rintro e_ x15 ⟨v15, rfl, r_, hb15_, hk15_⟩
              refine ⟨_, rfl, ?_⟩
              have HBx15 := Aside0.mk hb15_
              have HKx15 := Aside0.mk hk15_
              obtain ⟨Am, cm, e1_⟩ := Kd.R_slice r_
              subst e1_
              have HR15 := Aside0.mk r_
              clear r_ hb15_ hk15_ hg15
              refine hK.out _ _ (pw_cell_below HBx15.out hHX) (fun hHeld => ?_)
              clear hK K
              refine norm_ (a' := ?_) ?_ ?_
              rotate_left
              · show Act.put _ (some 47) _ = _
                simp only [Act.put, List.setIfInBounds_toArray, List.set_cons_zero, List.set_cons_succ, i64_w, i32_w]
                rfl
              exact norm_ (by simp only [putAll, Act.put, List.setIfInBounds_toArray, List.set_cons_zero, List.set_cons_succ]) (hCont ((Value.slice (some ⟨g0, 0, none⟩) 3 cap0), u, (Value.pointer (some ⟨g0, u.toNat, none⟩)), (rd [2, 4, 1] u), (Value.slice Al ms.length cl), (Value.agg #[.int .i64 (rd [2, 4, 1] u), .int .i64 0, .int .i64 0, .string ⟨#[]⟩, .slice Al ms.length cl, .int .i64 0]), (Value.agg #[.int .i64 (rd [2, 4, 1] u), .int .i64 0, .int .i64 0, .string ⟨#[]⟩, .slice Am ms.length cm, .int .i64 0]), g9) _ ⟨HBx15.out, kd_cases u hu0 hu1, ⟨Am, cm, rfl, Kd.R_mono HR15.out (fun _ _ => trivial)⟩, ((HKx15.out.2 _ (blk_lt HH9.out) (fun he_ => own_ne (Kd.own_of_R (Kd.R_below HOx13.out HSx16.out)) HH9.out (by decide) he_)).trans HH9.out), HG9.out⟩)
          · skip
            refine value_ (w1 := ?_) (v := ?_) (by rfl) rfl ?_ ?_
            rotate_left 2
            · go_simp
              constructor
              · rfl
              · rfl
            generalize hx_ : World.alloc x5 _ = x16
            have hs_ : Below x5.heap.size x5 x16 := by rw [← hx_]; exact below_alloc (Below.refl _ _) _
            have hh_ : x16.heap[x5.heap.size]? = some (.cells #[.int .i64 0, .int .i64 0, .int .i64 0, .string ⟨#[]⟩, .slice none 0 0, .int .i64 0] 77 (0, 0)) := by rw [← hx_]; exact heap_alloc_new _ _
            obtain ⟨g9, hg9_⟩ : ∃ q, x5.heap.size = q := ⟨_, rfl⟩
            rw [hg9_] at hh_
            try rw [hg9_]
            have HG9 := Aside0.mk (show wd.heap.size ≤ g9 by rw [← hg9_]; exact HBx5.out.size)
            have HSx16 := Aside0.mk hs_
            have HBx16 := Aside0.mk (below_then HBx5.out HBx5.out.size hs_ : Below wd.heap.size wd x16)
            have HH9 := Aside0.mk hh_
            clear hx_ hs_ hh_ hg9_
            refine hK.out _ _ (pw_cell_below HSx16.out hHeld) (fun hHeld => ?_)
            clear hK K
            refine norm_ (a' := ?_) ?_ ?_
            rotate_left
            · show Act.put _ (some 9) _ = _
              simp only [Act.put, List.setIfInBounds_toArray, List.set_cons_zero, List.set_cons_succ, i64_w, i32_w]
              rfl
            refine two_ (i := 7) (j := 13) (Ni := some 39) (Nj := some 45) #[true, true, true, true, true, true, true, true, true, true, true, true, true, false, false, false, true, false] #[true, true, true, true, true, true, true, false, true, true, true, true, true, true, false, false, true, false] rfl rfl rfl rfl (by kernel_rfl) (by decide) (by decide) (fun K hK => ?_) (fun K hK => ?_)
            · skip
              obtain ⟨ad7, e7_, hc7⟩ := Kd.at_int (Kd.C_below (Kd.C_below HR0.out HSx5.out) HSx16.out) u hu0 (by simpa using hu1)
              injection e7_ with e7_
              subst e7_
              try rw [add_plain] at hc7
              refine value_ (w1 := ?_) (v := ?_) (by rfl) rfl ?_ ?_
              rotate_left 2
              · go_simp
                constructor
                · rfl
                · rfl
              refine hK.out _ _ (hHeld) (fun hHeld => ?_)
              clear hK K
              refine norm_ (a' := ?_) ?_ ?_
              rotate_left
              · show Act.put _ (some 39) _ = _
                simp only [Act.put, List.setIfInBounds_toArray, List.set_cons_zero, List.set_cons_succ, i64_w, i32_w]
                rfl
              refine one_ (i := 13) (N := some 45) #[true, true, true, true, true, true, true, true, true, true, true, true, true, true, false, false, true, false] rfl rfl (by kernel_rfl) (by decide) (fun K hK => ?_)
              refine goes_ Try.func51 (by kernel_rfl) rfl #[.int .i64 (wrap64 (nv.tdiv 3))] (by rfl) rfl rfl (by simp only [List.map_toArray, List.map_cons, List.map_nil]; rfl) ?_
              with_reducible refine (synodallaw8_List.calls 20 (wrap64 (nv.tdiv 3)) ms _ HMS.out).mono ?_
              rintro e_ x13 ⟨v13, rfl, r_, hs_⟩
              refine ⟨_, rfl, ?_⟩
              have HSx13 := Aside0.mk hs_
              have HBx13 := Aside0.mk (below_then HBx16.out HBx16.out.size hs_ : Below wd.heap.size wd x13)
              obtain ⟨Al, cl, e1_⟩ := Kd.R_slice r_
              subst e1_
              have HOx13 := Aside0.mk (Kd.R_lower r_ HBx16.out.size : Kd.R (Kd.int .i64) 3 x13 wd.heap.size (fun _ => True) (.slice Al ms.length cl) ms)
              clear r_ hs_
              refine hK.out _ _ (pw_cell_below HSx13.out hHeld) (fun hHeld => ?_)
              clear hK K
              refine norm_ (a' := ?_) ?_ ?_
              rotate_left
              · show Act.put _ (some 45) _ = _
                simp only [Act.put, List.setIfInBounds_toArray, List.set_cons_zero, List.set_cons_succ, i64_w, i32_w]
                rfl
              refine pure_ (i := 14) (N := some 46) (v := ?_) (a' := ?_) #[true, true, true, true, true, true, true, true, true, true, true, true, true, true, true, false, true, false] rfl rfl (by kernel_rfl) (fun _ _ _ h => h) (Or.inl ⟨by rfl, ?_⟩) ?_ ?_
              rotate_left
              · intro w'
                go_simp
                with_reducible rfl
              rotate_left
              · simp only [Act.put, List.setIfInBounds_toArray, List.set_cons_zero, List.set_cons_succ, i64_w, i32_w]
                rfl
              refine one_ (i := 15) (N := some 47) #[true, true, true, true, true, true, true, true, true, true, true, true, true, true, true, true, true, false] rfl rfl (by kernel_rfl) (by decide) (fun K hK => ?_)
              have hg15 := synodallaw2_Good.calls 5 (rd [2, 4, 1] u) 0 0 ⟨#[]⟩ _ (.slice Al ms.length cl) ms 0 (rd [2, 4, 1] u) 0 0 ⟨#[]⟩ ms 0 wd x13 HBx13.out (Kd.R_tight rfl HOx13.out) (good_e (rd [2, 4, 1] u) ms (kd_cases u hu0 hu1) HM7.out)
              refine goes_ Try.func50 (by kernel_rfl) rfl #[.agg #[.int .i64 (rd [2, 4, 1] u), .int .i64 0, .int .i64 0, .string ⟨#[]⟩, .slice Al ms.length cl, .int .i64 0]] (by rfl) rfl rfl (by simp only [List.map_toArray, List.map_cons, List.map_nil]; rfl) ?_
              with_reducible refine (hg15).mono ?_
              rintro e_ x15 ⟨v15, rfl, r_, hb15_, hk15_⟩
              refine ⟨_, rfl, ?_⟩
              have HBx15 := Aside0.mk hb15_
              have HKx15 := Aside0.mk hk15_
              obtain ⟨Am, cm, e1_⟩ := Kd.R_slice r_
              subst e1_
              have HR15 := Aside0.mk r_
              clear r_ hb15_ hk15_ hg15
              refine hK.out _ _ (pw_cell_below HBx15.out hHX) (fun hHeld => ?_)
              clear hK K
              refine norm_ (a' := ?_) ?_ ?_
              rotate_left
              · show Act.put _ (some 47) _ = _
                simp only [Act.put, List.setIfInBounds_toArray, List.set_cons_zero, List.set_cons_succ, i64_w, i32_w]
                rfl
              exact norm_ (by simp only [putAll, Act.put, List.setIfInBounds_toArray, List.set_cons_zero, List.set_cons_succ]) (hCont ((Value.slice (some ⟨g0, 0, none⟩) 3 cap0), u, (Value.pointer (some ⟨g0, u.toNat, none⟩)), (rd [2, 4, 1] u), (Value.slice Al ms.length cl), (Value.agg #[.int .i64 (rd [2, 4, 1] u), .int .i64 0, .int .i64 0, .string ⟨#[]⟩, .slice Al ms.length cl, .int .i64 0]), (Value.agg #[.int .i64 (rd [2, 4, 1] u), .int .i64 0, .int .i64 0, .string ⟨#[]⟩, .slice Am ms.length cm, .int .i64 0]), g9) _ ⟨HBx15.out, kd_cases u hu0 hu1, ⟨Am, cm, rfl, Kd.R_mono HR15.out (fun _ _ => trivial)⟩, ((HKx15.out.2 _ (blk_lt (blk_below HH9.out HSx13.out)) (fun he_ => own_ne (Kd.own_of_R HOx13.out) (blk_below HH9.out HSx13.out) (by decide) he_)).trans (blk_below HH9.out HSx13.out)), HG9.out⟩)
            · skip
              refine goes_ Try.func51 (by kernel_rfl) rfl #[.int .i64 (wrap64 (nv.tdiv 3))] (by rfl) rfl rfl (by simp only [List.map_toArray, List.map_cons, List.map_nil]; rfl) ?_
              with_reducible refine (synodallaw8_List.calls 20 (wrap64 (nv.tdiv 3)) ms _ HMS.out).mono ?_
              rintro e_ x13 ⟨v13, rfl, r_, hs_⟩
              refine ⟨_, rfl, ?_⟩
              have HSx13 := Aside0.mk hs_
              have HBx13 := Aside0.mk (below_then HBx16.out HBx16.out.size hs_ : Below wd.heap.size wd x13)
              obtain ⟨Al, cl, e1_⟩ := Kd.R_slice r_
              subst e1_
              have HOx13 := Aside0.mk (Kd.R_lower r_ HBx16.out.size : Kd.R (Kd.int .i64) 3 x13 wd.heap.size (fun _ => True) (.slice Al ms.length cl) ms)
              clear r_ hs_
              refine hK.out _ _ (pw_cell_below HSx13.out hHeld) (fun hHeld => ?_)
              clear hK K
              refine norm_ (a' := ?_) ?_ ?_
              rotate_left
              · show Act.put _ (some 45) _ = _
                simp only [Act.put, List.setIfInBounds_toArray, List.set_cons_zero, List.set_cons_succ, i64_w, i32_w]
                rfl
              refine one_ (i := 7) (N := some 39) #[true, true, true, true, true, true, true, true, true, true, true, true, true, true, false, false, true, false] rfl rfl (by kernel_rfl) (by decide) (fun K hK => ?_)
              obtain ⟨ad7, e7_, hc7⟩ := Kd.at_int (Kd.C_below (Kd.C_below (Kd.C_below HR0.out HSx5.out) HSx16.out) HSx13.out) u hu0 (by simpa using hu1)
              injection e7_ with e7_
              subst e7_
              try rw [add_plain] at hc7
              refine value_ (w1 := ?_) (v := ?_) (by rfl) rfl ?_ ?_
              rotate_left 2
              · go_simp
                constructor
                · rfl
                · rfl
              refine hK.out _ _ (hHeld) (fun hHeld => ?_)
              clear hK K
              refine norm_ (a' := ?_) ?_ ?_
              rotate_left
              · show Act.put _ (some 39) _ = _
                simp only [Act.put, List.setIfInBounds_toArray, List.set_cons_zero, List.set_cons_succ, i64_w, i32_w]
                rfl
              refine pure_ (i := 14) (N := some 46) (v := ?_) (a' := ?_) #[true, true, true, true, true, true, true, true, true, true, true, true, true, true, true, false, true, false] rfl rfl (by kernel_rfl) (fun _ _ _ h => h) (Or.inl ⟨by rfl, ?_⟩) ?_ ?_
              rotate_left
              · intro w'
                go_simp
                with_reducible rfl
              rotate_left
              · simp only [Act.put, List.setIfInBounds_toArray, List.set_cons_zero, List.set_cons_succ, i64_w, i32_w]
                rfl
              refine one_ (i := 15) (N := some 47) #[true, true, true, true, true, true, true, true, true, true, true, true, true, true, true, true, true, false] rfl rfl (by kernel_rfl) (by decide) (fun K hK => ?_)
              have hg15 := synodallaw2_Good.calls 5 (rd [2, 4, 1] u) 0 0 ⟨#[]⟩ _ (.slice Al ms.length cl) ms 0 (rd [2, 4, 1] u) 0 0 ⟨#[]⟩ ms 0 wd x13 HBx13.out (Kd.R_tight rfl HOx13.out) (good_e (rd [2, 4, 1] u) ms (kd_cases u hu0 hu1) HM7.out)
              refine goes_ Try.func50 (by kernel_rfl) rfl #[.agg #[.int .i64 (rd [2, 4, 1] u), .int .i64 0, .int .i64 0, .string ⟨#[]⟩, .slice Al ms.length cl, .int .i64 0]] (by rfl) rfl rfl (by simp only [List.map_toArray, List.map_cons, List.map_nil]; rfl) ?_
              with_reducible refine (hg15).mono ?_
              rintro e_ x15 ⟨v15, rfl, r_, hb15_, hk15_⟩
              refine ⟨_, rfl, ?_⟩
              have HBx15 := Aside0.mk hb15_
              have HKx15 := Aside0.mk hk15_
              obtain ⟨Am, cm, e1_⟩ := Kd.R_slice r_
              subst e1_
              have HR15 := Aside0.mk r_
              clear r_ hb15_ hk15_ hg15
              refine hK.out _ _ (pw_cell_below HBx15.out hHX) (fun hHeld => ?_)
              clear hK K
              refine norm_ (a' := ?_) ?_ ?_
              rotate_left
              · show Act.put _ (some 47) _ = _
                simp only [Act.put, List.setIfInBounds_toArray, List.set_cons_zero, List.set_cons_succ, i64_w, i32_w]
                rfl
              exact norm_ (by simp only [putAll, Act.put, List.setIfInBounds_toArray, List.set_cons_zero, List.set_cons_succ]) (hCont ((Value.slice (some ⟨g0, 0, none⟩) 3 cap0), u, (Value.pointer (some ⟨g0, u.toNat, none⟩)), (rd [2, 4, 1] u), (Value.slice Al ms.length cl), (Value.agg #[.int .i64 (rd [2, 4, 1] u), .int .i64 0, .int .i64 0, .string ⟨#[]⟩, .slice Al ms.length cl, .int .i64 0]), (Value.agg #[.int .i64 (rd [2, 4, 1] u), .int .i64 0, .int .i64 0, .string ⟨#[]⟩, .slice Am ms.length cm, .int .i64 0]), g9) _ ⟨HBx15.out, kd_cases u hu0 hu1, ⟨Am, cm, rfl, Kd.R_mono HR15.out (fun _ _ => trivial)⟩, ((HKx15.out.2 _ (blk_lt (blk_below HH9.out HSx13.out)) (fun he_ => own_ne (Kd.own_of_R HOx13.out) (blk_below HH9.out HSx13.out) (by decide) he_)).trans (blk_below HH9.out HSx13.out)), HG9.out⟩)
        · skip
          refine value_ (w1 := ?_) (v := ?_) (by rfl) rfl ?_ ?_
          rotate_left 2
          · go_simp
            constructor
            · rfl
            · rfl
          generalize hx_ : World.alloc x0 _ = x16
          have hs_ : Below x0.heap.size x0 x16 := by rw [← hx_]; exact below_alloc (Below.refl _ _) _
          have hh_ : x16.heap[x0.heap.size]? = some (.cells #[.int .i64 0, .int .i64 0, .int .i64 0, .string ⟨#[]⟩, .slice none 0 0, .int .i64 0] 77 (0, 0)) := by rw [← hx_]; exact heap_alloc_new _ _
          obtain ⟨g9, hg9_⟩ : ∃ q, x0.heap.size = q := ⟨_, rfl⟩
          rw [hg9_] at hh_
          try rw [hg9_]
          have HG9 := Aside0.mk (show wd.heap.size ≤ g9 by rw [← hg9_]; exact HBx0.out.size)
          have HSx16 := Aside0.mk hs_
          have HBx16 := Aside0.mk (below_then HBx0.out HBx0.out.size hs_ : Below wd.heap.size wd x16)
          have HH9 := Aside0.mk hh_
          clear hx_ hs_ hh_ hg9_
          refine hK.out _ _ (pw_cell_below HSx16.out hHeld) (fun hHeld => ?_)
          clear hK K
          refine norm_ (a' := ?_) ?_ ?_
          rotate_left
          · show Act.put _ (some 9) _ = _
            simp only [Act.put, List.setIfInBounds_toArray, List.set_cons_zero, List.set_cons_succ, i64_w, i32_w]
            rfl
          refine one_ (i := 5) (N := some 37) #[true, true, true, true, true, true, false, false, true, true, true, true, true, false, false, false, true, false] rfl rfl (by kernel_rfl) (by decide) (fun K hK => ?_)
          refine goes_ Try.func34 (by kernel_rfl) rfl #[.int .i64 nv, .int .i64 3] (by rfl) rfl rfl (by simp only [List.map_toArray, List.map_cons, List.map_nil]; rfl) ?_
          with_reducible refine (within_below nv 3 _ (by omega) (by omega)).mono ?_
          rintro e_ x5 ⟨u, rfl, hs_, hu0, hu1⟩
          refine ⟨_, rfl, ?_⟩
          have HSx5 := Aside0.mk hs_
          have HBx5 := Aside0.mk (below_then HBx16.out HBx16.out.size hs_ : Below wd.heap.size wd x5)
          have hqu0 := eq_true hu0
          have hqu1 := eq_true hu1
          clear hs_
          refine hK.out _ _ (pw_cell_below HSx5.out hHeld) (fun hHeld => ?_)
          clear hK K
          refine norm_ (a' := ?_) ?_ ?_
          rotate_left
          · show Act.put _ (some 37) _ = _
            simp only [Act.put, List.setIfInBounds_toArray, List.set_cons_zero, List.set_cons_succ, i64_w, i32_w]
            rfl
          refine pure_ (i := 6) (N := some 38) (v := ?_) (a' := ?_) #[true, true, true, true, true, true, true, false, true, true, true, true, true, false, false, false, true, false] rfl rfl (by kernel_rfl) (fun _ _ _ h => h) (Or.inl ⟨by rfl, ?_⟩) ?_ ?_
          rotate_left
          · intro w'
            go_simp
            with_reducible rfl
          rotate_left
          · simp only [Act.put, List.setIfInBounds_toArray, List.set_cons_zero, List.set_cons_succ, i64_w, i32_w]
            rfl
          refine two_ (i := 7) (j := 13) (Ni := some 39) (Nj := some 45) #[true, true, true, true, true, true, true, true, true, true, true, true, true, false, false, false, true, false] #[true, true, true, true, true, true, true, false, true, true, true, true, true, true, false, false, true, false] rfl rfl rfl rfl (by kernel_rfl) (by decide) (by decide) (fun K hK => ?_) (fun K hK => ?_)
          · skip
            obtain ⟨ad7, e7_, hc7⟩ := Kd.at_int (Kd.C_below (Kd.C_below HR0.out HSx16.out) HSx5.out) u hu0 (by simpa using hu1)
            injection e7_ with e7_
            subst e7_
            try rw [add_plain] at hc7
            refine value_ (w1 := ?_) (v := ?_) (by rfl) rfl ?_ ?_
            rotate_left 2
            · go_simp
              constructor
              · rfl
              · rfl
            refine hK.out _ _ (hHeld) (fun hHeld => ?_)
            clear hK K
            refine norm_ (a' := ?_) ?_ ?_
            rotate_left
            · show Act.put _ (some 39) _ = _
              simp only [Act.put, List.setIfInBounds_toArray, List.set_cons_zero, List.set_cons_succ, i64_w, i32_w]
              rfl
            refine one_ (i := 13) (N := some 45) #[true, true, true, true, true, true, true, true, true, true, true, true, true, true, false, false, true, false] rfl rfl (by kernel_rfl) (by decide) (fun K hK => ?_)
            refine goes_ Try.func51 (by kernel_rfl) rfl #[.int .i64 (wrap64 (nv.tdiv 3))] (by rfl) rfl rfl (by simp only [List.map_toArray, List.map_cons, List.map_nil]; rfl) ?_
            with_reducible refine (synodallaw8_List.calls 20 (wrap64 (nv.tdiv 3)) ms _ HMS.out).mono ?_
            rintro e_ x13 ⟨v13, rfl, r_, hs_⟩
            refine ⟨_, rfl, ?_⟩
            have HSx13 := Aside0.mk hs_
            have HBx13 := Aside0.mk (below_then HBx5.out HBx5.out.size hs_ : Below wd.heap.size wd x13)
            obtain ⟨Al, cl, e1_⟩ := Kd.R_slice r_
            subst e1_
            have HOx13 := Aside0.mk (Kd.R_lower r_ HBx5.out.size : Kd.R (Kd.int .i64) 3 x13 wd.heap.size (fun _ => True) (.slice Al ms.length cl) ms)
            clear r_ hs_
            refine hK.out _ _ (pw_cell_below HSx13.out hHeld) (fun hHeld => ?_)
            clear hK K
            refine norm_ (a' := ?_) ?_ ?_
            rotate_left
            · show Act.put _ (some 45) _ = _
              simp only [Act.put, List.setIfInBounds_toArray, List.set_cons_zero, List.set_cons_succ, i64_w, i32_w]
              rfl
            refine pure_ (i := 14) (N := some 46) (v := ?_) (a' := ?_) #[true, true, true, true, true, true, true, true, true, true, true, true, true, true, true, false, true, false] rfl rfl (by kernel_rfl) (fun _ _ _ h => h) (Or.inl ⟨by rfl, ?_⟩) ?_ ?_
            rotate_left
            · intro w'
              go_simp
              with_reducible rfl
            rotate_left
            · simp only [Act.put, List.setIfInBounds_toArray, List.set_cons_zero, List.set_cons_succ, i64_w, i32_w]
              rfl
            refine one_ (i := 15) (N := some 47) #[true, true, true, true, true, true, true, true, true, true, true, true, true, true, true, true, true, false] rfl rfl (by kernel_rfl) (by decide) (fun K hK => ?_)
            have hg15 := synodallaw2_Good.calls 5 (rd [2, 4, 1] u) 0 0 ⟨#[]⟩ _ (.slice Al ms.length cl) ms 0 (rd [2, 4, 1] u) 0 0 ⟨#[]⟩ ms 0 wd x13 HBx13.out (Kd.R_tight rfl HOx13.out) (good_e (rd [2, 4, 1] u) ms (kd_cases u hu0 hu1) HM7.out)
            refine goes_ Try.func50 (by kernel_rfl) rfl #[.agg #[.int .i64 (rd [2, 4, 1] u), .int .i64 0, .int .i64 0, .string ⟨#[]⟩, .slice Al ms.length cl, .int .i64 0]] (by rfl) rfl rfl (by simp only [List.map_toArray, List.map_cons, List.map_nil]; rfl) ?_
            with_reducible refine (hg15).mono ?_
            rintro e_ x15 ⟨v15, rfl, r_, hb15_, hk15_⟩
            refine ⟨_, rfl, ?_⟩
            have HBx15 := Aside0.mk hb15_
            have HKx15 := Aside0.mk hk15_
            obtain ⟨Am, cm, e1_⟩ := Kd.R_slice r_
            subst e1_
            have HR15 := Aside0.mk r_
            clear r_ hb15_ hk15_ hg15
            refine hK.out _ _ (pw_cell_below HBx15.out hHX) (fun hHeld => ?_)
            clear hK K
            refine norm_ (a' := ?_) ?_ ?_
            rotate_left
            · show Act.put _ (some 47) _ = _
              simp only [Act.put, List.setIfInBounds_toArray, List.set_cons_zero, List.set_cons_succ, i64_w, i32_w]
              rfl
            exact norm_ (by simp only [putAll, Act.put, List.setIfInBounds_toArray, List.set_cons_zero, List.set_cons_succ]) (hCont ((Value.slice (some ⟨g0, 0, none⟩) 3 cap0), u, (Value.pointer (some ⟨g0, u.toNat, none⟩)), (rd [2, 4, 1] u), (Value.slice Al ms.length cl), (Value.agg #[.int .i64 (rd [2, 4, 1] u), .int .i64 0, .int .i64 0, .string ⟨#[]⟩, .slice Al ms.length cl, .int .i64 0]), (Value.agg #[.int .i64 (rd [2, 4, 1] u), .int .i64 0, .int .i64 0, .string ⟨#[]⟩, .slice Am ms.length cm, .int .i64 0]), g9) _ ⟨HBx15.out, kd_cases u hu0 hu1, ⟨Am, cm, rfl, Kd.R_mono HR15.out (fun _ _ => trivial)⟩, ((HKx15.out.2 _ (blk_lt (blk_below (blk_below HH9.out HSx5.out) HSx13.out)) (fun he_ => own_ne (Kd.own_of_R HOx13.out) (blk_below (blk_below HH9.out HSx5.out) HSx13.out) (by decide) he_)).trans (blk_below (blk_below HH9.out HSx5.out) HSx13.out)), HG9.out⟩)
          · skip
            refine goes_ Try.func51 (by kernel_rfl) rfl #[.int .i64 (wrap64 (nv.tdiv 3))] (by rfl) rfl rfl (by simp only [List.map_toArray, List.map_cons, List.map_nil]; rfl) ?_
            with_reducible refine (synodallaw8_List.calls 20 (wrap64 (nv.tdiv 3)) ms _ HMS.out).mono ?_
            rintro e_ x13 ⟨v13, rfl, r_, hs_⟩
            refine ⟨_, rfl, ?_⟩
            have HSx13 := Aside0.mk hs_
            have HBx13 := Aside0.mk (below_then HBx5.out HBx5.out.size hs_ : Below wd.heap.size wd x13)
            obtain ⟨Al, cl, e1_⟩ := Kd.R_slice r_
            subst e1_
            have HOx13 := Aside0.mk (Kd.R_lower r_ HBx5.out.size : Kd.R (Kd.int .i64) 3 x13 wd.heap.size (fun _ => True) (.slice Al ms.length cl) ms)
            clear r_ hs_
            refine hK.out _ _ (pw_cell_below HSx13.out hHeld) (fun hHeld => ?_)
            clear hK K
            refine norm_ (a' := ?_) ?_ ?_
            rotate_left
            · show Act.put _ (some 45) _ = _
              simp only [Act.put, List.setIfInBounds_toArray, List.set_cons_zero, List.set_cons_succ, i64_w, i32_w]
              rfl
            refine one_ (i := 7) (N := some 39) #[true, true, true, true, true, true, true, true, true, true, true, true, true, true, false, false, true, false] rfl rfl (by kernel_rfl) (by decide) (fun K hK => ?_)
            obtain ⟨ad7, e7_, hc7⟩ := Kd.at_int (Kd.C_below (Kd.C_below (Kd.C_below HR0.out HSx16.out) HSx5.out) HSx13.out) u hu0 (by simpa using hu1)
            injection e7_ with e7_
            subst e7_
            try rw [add_plain] at hc7
            refine value_ (w1 := ?_) (v := ?_) (by rfl) rfl ?_ ?_
            rotate_left 2
            · go_simp
              constructor
              · rfl
              · rfl
            refine hK.out _ _ (hHeld) (fun hHeld => ?_)
            clear hK K
            refine norm_ (a' := ?_) ?_ ?_
            rotate_left
            · show Act.put _ (some 39) _ = _
              simp only [Act.put, List.setIfInBounds_toArray, List.set_cons_zero, List.set_cons_succ, i64_w, i32_w]
              rfl
            refine pure_ (i := 14) (N := some 46) (v := ?_) (a' := ?_) #[true, true, true, true, true, true, true, true, true, true, true, true, true, true, true, false, true, false] rfl rfl (by kernel_rfl) (fun _ _ _ h => h) (Or.inl ⟨by rfl, ?_⟩) ?_ ?_
            rotate_left
            · intro w'
              go_simp
              with_reducible rfl
            rotate_left
            · simp only [Act.put, List.setIfInBounds_toArray, List.set_cons_zero, List.set_cons_succ, i64_w, i32_w]
              rfl
            refine one_ (i := 15) (N := some 47) #[true, true, true, true, true, true, true, true, true, true, true, true, true, true, true, true, true, false] rfl rfl (by kernel_rfl) (by decide) (fun K hK => ?_)
            have hg15 := synodallaw2_Good.calls 5 (rd [2, 4, 1] u) 0 0 ⟨#[]⟩ _ (.slice Al ms.length cl) ms 0 (rd [2, 4, 1] u) 0 0 ⟨#[]⟩ ms 0 wd x13 HBx13.out (Kd.R_tight rfl HOx13.out) (good_e (rd [2, 4, 1] u) ms (kd_cases u hu0 hu1) HM7.out)
            refine goes_ Try.func50 (by kernel_rfl) rfl #[.agg #[.int .i64 (rd [2, 4, 1] u), .int .i64 0, .int .i64 0, .string ⟨#[]⟩, .slice Al ms.length cl, .int .i64 0]] (by rfl) rfl rfl (by simp only [List.map_toArray, List.map_cons, List.map_nil]; rfl) ?_
            with_reducible refine (hg15).mono ?_
            rintro e_ x15 ⟨v15, rfl, r_, hb15_, hk15_⟩
            refine ⟨_, rfl, ?_⟩
            have HBx15 := Aside0.mk hb15_
            have HKx15 := Aside0.mk hk15_
            obtain ⟨Am, cm, e1_⟩ := Kd.R_slice r_
            subst e1_
            have HR15 := Aside0.mk r_
            clear r_ hb15_ hk15_ hg15
            refine hK.out _ _ (pw_cell_below HBx15.out hHX) (fun hHeld => ?_)
            clear hK K
            refine norm_ (a' := ?_) ?_ ?_
            rotate_left
            · show Act.put _ (some 47) _ = _
              simp only [Act.put, List.setIfInBounds_toArray, List.set_cons_zero, List.set_cons_succ, i64_w, i32_w]
              rfl
            exact norm_ (by simp only [putAll, Act.put, List.setIfInBounds_toArray, List.set_cons_zero, List.set_cons_succ]) (hCont ((Value.slice (some ⟨g0, 0, none⟩) 3 cap0), u, (Value.pointer (some ⟨g0, u.toNat, none⟩)), (rd [2, 4, 1] u), (Value.slice Al ms.length cl), (Value.agg #[.int .i64 (rd [2, 4, 1] u), .int .i64 0, .int .i64 0, .string ⟨#[]⟩, .slice Al ms.length cl, .int .i64 0]), (Value.agg #[.int .i64 (rd [2, 4, 1] u), .int .i64 0, .int .i64 0, .string ⟨#[]⟩, .slice Am ms.length cm, .int .i64 0]), g9) _ ⟨HBx15.out, kd_cases u hu0 hu1, ⟨Am, cm, rfl, Kd.R_mono HR15.out (fun _ _ => trivial)⟩, ((HKx15.out.2 _ (blk_lt (blk_below (blk_below HH9.out HSx5.out) HSx13.out)) (fun he_ => own_ne (Kd.own_of_R HOx13.out) (blk_below (blk_below HH9.out HSx5.out) HSx13.out) (by decide) he_)).trans (blk_below (blk_below HH9.out HSx5.out) HSx13.out)), HG9.out⟩)
      · skip
        refine goes_ Try.func34 (by kernel_rfl) rfl #[.int .i64 nv, .int .i64 3] (by rfl) rfl rfl (by simp only [List.map_toArray, List.map_cons, List.map_nil]; rfl) ?_
        with_reducible refine (within_below nv 3 _ (by omega) (by omega)).mono ?_
        rintro e_ x5 ⟨u, rfl, hs_, hu0, hu1⟩
        refine ⟨_, rfl, ?_⟩
        have HSx5 := Aside0.mk hs_
        have HBx5 := Aside0.mk (below_then (Below.refl _ _) (Nat.le_refl _) hs_ : Below wd.heap.size wd x5)
        have hqu0 := eq_true hu0
        have hqu1 := eq_true hu1
        clear hs_
        refine hK.out _ _ (pw_cell_below HSx5.out hHeld) (fun hHeld => ?_)
        clear hK K
        refine norm_ (a' := ?_) ?_ ?_
        rotate_left
        · show Act.put _ (some 37) _ = _
          simp only [Act.put, List.setIfInBounds_toArray, List.set_cons_zero, List.set_cons_succ, i64_w, i32_w]
          rfl
        refine three_ (i := 0) (j := 13) (k := 16) (Ni := some 32) (Nj := some 45) (Nk := some 9) #[true, true, true, true, true, true, false, false, true, true, true, true, true, false, false, false, false, false] #[false, true, true, true, true, true, false, false, true, true, true, true, true, true, false, false, false, false] #[false, true, true, true, true, true, false, false, true, true, true, true, true, false, false, false, true, false] rfl rfl rfl rfl rfl rfl (by kernel_rfl) (by decide) (by decide) (by decide) (fun K hK => ?_) (fun K hK => ?_) (fun K hK => ?_)
        · skip
          refine Kd.R_lit_step (Kd.int .i64) (w0 := x5) x5.heap.size 3 (by rfl) (N := 32) rfl (xs := [2, 4, 1]) (inner := [.int .i64 2, .int .i64 4, .int .i64 1]) (ok := fun _ => True) (okp := fun _ => False) ?hr (Reps.cons_ (show (Kd.int .i64).M _ _ _ (2 : Int) [.int .i64 2] from rfl) rfl (Reps.cons_ (show (Kd.int .i64).M _ _ _ (4 : Int) [.int .i64 4] from rfl) rfl (Reps.cons_ (show (Kd.int .i64).M _ _ _ (1 : Int) [.int .i64 1] from rfl) rfl (Reps.none _ _)))) (fun _ h => h.elim) trivial (Below.refl _ _) (Nat.le_refl _) (by simp) ?_
          (case hr => first | (go_simp; done) | (go_simp; rfl))
          intro v0 x0 r_ hs_ g_ n_
          have HSx0 := Aside0.mk hs_
          have HBx0 := Aside0.mk (below_then HBx5.out HBx5.out.size hs_ : Below wd.heap.size wd x0)
          obtain ⟨g0, cap0, e0_, _⟩ := Kd.R_form r_ (by simp)
          have e1_ : v0 = .slice (some ⟨g0, 0, none⟩) 3 cap0 := e0_
          subst e1_
          have HR0 := Aside0.mk (Kd.R_reads' r_).2.2
          clear r_ hs_ g_ n_ e0_
          refine hK.out _ _ (pw_cell_below HSx0.out hHeld) (fun hHeld => ?_)
          clear hK K
          refine norm_ (a' := ?_) ?_ ?_
          rotate_left
          · show Act.put _ (some 32) _ = _
            simp only [Act.put, List.setIfInBounds_toArray, List.set_cons_zero, List.set_cons_succ, i64_w, i32_w]
            rfl
          refine pure_ (i := 6) (N := some 38) (v := ?_) (a' := ?_) #[true, true, true, true, true, true, true, false, true, true, true, true, true, false, false, false, false, false] rfl rfl (by kernel_rfl) (fun _ _ _ h => h) (Or.inl ⟨by rfl, ?_⟩) ?_ ?_
          rotate_left
          · intro w'
            go_simp
            with_reducible rfl
          rotate_left
          · simp only [Act.put, List.setIfInBounds_toArray, List.set_cons_zero, List.set_cons_succ, i64_w, i32_w]
            rfl
          refine three_ (i := 7) (j := 13) (k := 16) (Ni := some 39) (Nj := some 45) (Nk := some 9) #[true, true, true, true, true, true, true, true, true, true, true, true, true, false, false, false, false, false] #[true, true, true, true, true, true, true, false, true, true, true, true, true, true, false, false, false, false] #[true, true, true, true, true, true, true, false, true, true, true, true, true, false, false, false, true, false] rfl rfl rfl rfl rfl rfl (by kernel_rfl) (by decide) (by decide) (by decide) (fun K hK => ?_) (fun K hK => ?_) (fun K hK => ?_)
          · skip
            obtain ⟨ad7, e7_, hc7⟩ := Kd.at_int HR0.out u hu0 (by simpa using hu1)
            injection e7_ with e7_
            subst e7_
            try rw [add_plain] at hc7
            refine value_ (w1 := ?_) (v := ?_) (by rfl) rfl ?_ ?_
            rotate_left 2
            · go_simp
              constructor
              · rfl
              · rfl
            refine hK.out _ _ (hHeld) (fun hHeld => ?_)
            clear hK K
            refine norm_ (a' := ?_) ?_ ?_
            rotate_left
            · show Act.put _ (some 39) _ = _
              simp only [Act.put, List.setIfInBounds_toArray, List.set_cons_zero, List.set_cons_succ, i64_w, i32_w]
              rfl
            refine two_ (i := 13) (j := 16) (Ni := some 45) (Nj := some 9) #[true, true, true, true, true, true, true, true, true, true, true, true, true, true, false, false, false, false] #[true, true, true, true, true, true, true, true, true, true, true, true, true, false, false, false, true, false] rfl rfl rfl rfl (by kernel_rfl) (by decide) (by decide) (fun K hK => ?_) (fun K hK => ?_)
            · skip
              refine goes_ Try.func51 (by kernel_rfl) rfl #[.int .i64 (wrap64 (nv.tdiv 3))] (by rfl) rfl rfl (by simp only [List.map_toArray, List.map_cons, List.map_nil]; rfl) ?_
              with_reducible refine (synodallaw8_List.calls 20 (wrap64 (nv.tdiv 3)) ms _ HMS.out).mono ?_
              rintro e_ x13 ⟨v13, rfl, r_, hs_⟩
              refine ⟨_, rfl, ?_⟩
              have HSx13 := Aside0.mk hs_
              have HBx13 := Aside0.mk (below_then HBx0.out HBx0.out.size hs_ : Below wd.heap.size wd x13)
              obtain ⟨Al, cl, e1_⟩ := Kd.R_slice r_
              subst e1_
              have HOx13 := Aside0.mk (Kd.R_lower r_ HBx0.out.size : Kd.R (Kd.int .i64) 3 x13 wd.heap.size (fun _ => True) (.slice Al ms.length cl) ms)
              clear r_ hs_
              refine hK.out _ _ (pw_cell_below HSx13.out hHeld) (fun hHeld => ?_)
              clear hK K
              refine norm_ (a' := ?_) ?_ ?_
              rotate_left
              · show Act.put _ (some 45) _ = _
                simp only [Act.put, List.setIfInBounds_toArray, List.set_cons_zero, List.set_cons_succ, i64_w, i32_w]
                rfl
              refine pure_ (i := 14) (N := some 46) (v := ?_) (a' := ?_) #[true, true, true, true, true, true, true, true, true, true, true, true, true, true, true, false, false, false] rfl rfl (by kernel_rfl) (fun _ _ _ h => h) (Or.inl ⟨by rfl, ?_⟩) ?_ ?_
              rotate_left
              · intro w'
                go_simp
                with_reducible rfl
              rotate_left
              · simp only [Act.put, List.setIfInBounds_toArray, List.set_cons_zero, List.set_cons_succ, i64_w, i32_w]
                rfl
              refine two_ (i := 15) (j := 16) (Ni := some 47) (Nj := some 9) #[true, true, true, true, true, true, true, true, true, true, true, true, true, true, true, true, false, false] #[true, true, true, true, true, true, true, true, true, true, true, true, true, true, true, false, true, false] rfl rfl rfl rfl (by kernel_rfl) (by decide) (by decide) (fun K hK => ?_) (fun K hK => ?_)
              · skip
                have hg15 := synodallaw2_Good.calls 5 (rd [2, 4, 1] u) 0 0 ⟨#[]⟩ _ (.slice Al ms.length cl) ms 0 (rd [2, 4, 1] u) 0 0 ⟨#[]⟩ ms 0 wd x13 HBx13.out (Kd.R_tight rfl HOx13.out) (good_e (rd [2, 4, 1] u) ms (kd_cases u hu0 hu1) HM7.out)
                refine goes_ Try.func50 (by kernel_rfl) rfl #[.agg #[.int .i64 (rd [2, 4, 1] u), .int .i64 0, .int .i64 0, .string ⟨#[]⟩, .slice Al ms.length cl, .int .i64 0]] (by rfl) rfl rfl (by simp only [List.map_toArray, List.map_cons, List.map_nil]; rfl) ?_
                with_reducible refine (hg15).mono ?_
                rintro e_ x15 ⟨v15, rfl, r_, hb15_, hk15_⟩
                refine ⟨_, rfl, ?_⟩
                have HBx15 := Aside0.mk hb15_
                have HKx15 := Aside0.mk hk15_
                obtain ⟨Am, cm, e1_⟩ := Kd.R_slice r_
                subst e1_
                have HR15 := Aside0.mk r_
                clear r_ hb15_ hk15_ hg15
                refine hK.out _ _ (pw_cell_below HBx15.out hHX) (fun hHeld => ?_)
                clear hK K
                refine norm_ (a' := ?_) ?_ ?_
                rotate_left
                · show Act.put _ (some 47) _ = _
                  simp only [Act.put, List.setIfInBounds_toArray, List.set_cons_zero, List.set_cons_succ, i64_w, i32_w]
                  rfl
                refine one_ (i := 16) (N := some 9) #[true, true, true, true, true, true, true, true, true, true, true, true, true, true, true, true, true, false] rfl rfl (by kernel_rfl) (by decide) (fun K hK => ?_)
                refine value_ (w1 := ?_) (v := ?_) (by rfl) rfl ?_ ?_
                rotate_left 2
                · go_simp
                  constructor
                  · rfl
                  · rfl
                generalize hx_ : World.alloc x15 _ = x16
                have hs_ : Below x15.heap.size x15 x16 := by rw [← hx_]; exact below_alloc (Below.refl _ _) _
                have hh_ : x16.heap[x15.heap.size]? = some (.cells #[.int .i64 0, .int .i64 0, .int .i64 0, .string ⟨#[]⟩, .slice none 0 0, .int .i64 0] 77 (0, 0)) := by rw [← hx_]; exact heap_alloc_new _ _
                obtain ⟨g9, hg9_⟩ : ∃ q, x15.heap.size = q := ⟨_, rfl⟩
                rw [hg9_] at hh_
                try rw [hg9_]
                have HG9 := Aside0.mk (show wd.heap.size ≤ g9 by rw [← hg9_]; exact HBx15.out.size)
                have HSx16 := Aside0.mk hs_
                have HBx16 := Aside0.mk (below_then HBx15.out HBx15.out.size hs_ : Below wd.heap.size wd x16)
                have HH9 := Aside0.mk hh_
                clear hx_ hs_ hh_ hg9_
                refine hK.out _ _ (pw_cell_below HSx16.out hHeld) (fun hHeld => ?_)
                clear hK K
                refine norm_ (a' := ?_) ?_ ?_
                rotate_left
                · show Act.put _ (some 9) _ = _
                  simp only [Act.put, List.setIfInBounds_toArray, List.set_cons_zero, List.set_cons_succ, i64_w, i32_w]
                  rfl
                exact norm_ (by simp only [putAll, Act.put, List.setIfInBounds_toArray, List.set_cons_zero, List.set_cons_succ]) (hCont ((Value.slice (some ⟨g0, 0, none⟩) 3 cap0), u, (Value.pointer (some ⟨g0, u.toNat, none⟩)), (rd [2, 4, 1] u), (Value.slice Al ms.length cl), (Value.agg #[.int .i64 (rd [2, 4, 1] u), .int .i64 0, .int .i64 0, .string ⟨#[]⟩, .slice Al ms.length cl, .int .i64 0]), (Value.agg #[.int .i64 (rd [2, 4, 1] u), .int .i64 0, .int .i64 0, .string ⟨#[]⟩, .slice Am ms.length cm, .int .i64 0]), g9) _ ⟨HBx16.out, kd_cases u hu0 hu1, ⟨Am, cm, rfl, Kd.R_mono (Kd.R_below HR15.out HSx16.out) (fun _ _ => trivial)⟩, HH9.out, HG9.out⟩)
              · skip
                refine value_ (w1 := ?_) (v := ?_) (by rfl) rfl ?_ ?_
                rotate_left 2
                · go_simp
                  constructor
                  · rfl
                  · rfl
                generalize hx_ : World.alloc x13 _ = x16
                have hs_ : Below x13.heap.size x13 x16 := by rw [← hx_]; exact below_alloc (Below.refl _ _) _
                have hh_ : x16.heap[x13.heap.size]? = some (.cells #[.int .i64 0, .int .i64 0, .int .i64 0, .string ⟨#[]⟩, .slice none 0 0, .int .i64 0] 77 (0, 0)) := by rw [← hx_]; exact heap_alloc_new _ _
                obtain ⟨g9, hg9_⟩ : ∃ q, x13.heap.size = q := ⟨_, rfl⟩
                rw [hg9_] at hh_
                try rw [hg9_]
                have HG9 := Aside0.mk (show wd.heap.size ≤ g9 by rw [← hg9_]; exact HBx13.out.size)
                have HSx16 := Aside0.mk hs_
                have HBx16 := Aside0.mk (below_then HBx13.out HBx13.out.size hs_ : Below wd.heap.size wd x16)
                have HH9 := Aside0.mk hh_
                clear hx_ hs_ hh_ hg9_
                refine hK.out _ _ (pw_cell_below HSx16.out hHeld) (fun hHeld => ?_)
                clear hK K
                refine norm_ (a' := ?_) ?_ ?_
                rotate_left
                · show Act.put _ (some 9) _ = _
                  simp only [Act.put, List.setIfInBounds_toArray, List.set_cons_zero, List.set_cons_succ, i64_w, i32_w]
                  rfl
                refine one_ (i := 15) (N := some 47) #[true, true, true, true, true, true, true, true, true, true, true, true, true, true, true, true, true, false] rfl rfl (by kernel_rfl) (by decide) (fun K hK => ?_)
                have hg15 := synodallaw2_Good.calls 5 (rd [2, 4, 1] u) 0 0 ⟨#[]⟩ _ (.slice Al ms.length cl) ms 0 (rd [2, 4, 1] u) 0 0 ⟨#[]⟩ ms 0 wd x16 HBx16.out (Kd.R_tight rfl (Kd.R_below HOx13.out HSx16.out)) (good_e (rd [2, 4, 1] u) ms (kd_cases u hu0 hu1) HM7.out)
                refine goes_ Try.func50 (by kernel_rfl) rfl #[.agg #[.int .i64 (rd [2, 4, 1] u), .int .i64 0, .int .i64 0, .string ⟨#[]⟩, .slice Al ms.length cl, .int .i64 0]] (by rfl) rfl rfl (by simp only [List.map_toArray, List.map_cons, List.map_nil]; rfl) ?_
                with_reducible refine (hg15).mono ?_
                rintro e_ x15 ⟨v15, rfl, r_, hb15_, hk15_⟩
                refine ⟨_, rfl, ?_⟩
                have HBx15 := Aside0.mk hb15_
                have HKx15 := Aside0.mk hk15_
                obtain ⟨Am, cm, e1_⟩ := Kd.R_slice r_
                subst e1_
                have HR15 := Aside0.mk r_
                clear r_ hb15_ hk15_ hg15
                refine hK.out _ _ (pw_cell_below HBx15.out hHX) (fun hHeld => ?_)
                clear hK K
                refine norm_ (a' := ?_) ?_ ?_
                rotate_left
                · show Act.put _ (some 47) _ = _
                  simp only [Act.put, List.setIfInBounds_toArray, List.set_cons_zero, List.set_cons_succ, i64_w, i32_w]
                  rfl
                exact norm_ (by simp only [putAll, Act.put, List.setIfInBounds_toArray, List.set_cons_zero, List.set_cons_succ]) (hCont ((Value.slice (some ⟨g0, 0, none⟩) 3 cap0), u, (Value.pointer (some ⟨g0, u.toNat, none⟩)), (rd [2, 4, 1] u), (Value.slice Al ms.length cl), (Value.agg #[.int .i64 (rd [2, 4, 1] u), .int .i64 0, .int .i64 0, .string ⟨#[]⟩, .slice Al ms.length cl, .int .i64 0]), (Value.agg #[.int .i64 (rd [2, 4, 1] u), .int .i64 0, .int .i64 0, .string ⟨#[]⟩, .slice Am ms.length cm, .int .i64 0]), g9) _ ⟨HBx15.out, kd_cases u hu0 hu1, ⟨Am, cm, rfl, Kd.R_mono HR15.out (fun _ _ => trivial)⟩, ((HKx15.out.2 _ (blk_lt HH9.out) (fun he_ => own_ne (Kd.own_of_R (Kd.R_below HOx13.out HSx16.out)) HH9.out (by decide) he_)).trans HH9.out), HG9.out⟩)
            · skip
              refine value_ (w1 := ?_) (v := ?_) (by rfl) rfl ?_ ?_
              rotate_left 2
              · go_simp
                constructor
                · rfl
                · rfl
              generalize hx_ : World.alloc x0 _ = x16
              have hs_ : Below x0.heap.size x0 x16 := by rw [← hx_]; exact below_alloc (Below.refl _ _) _
              have hh_ : x16.heap[x0.heap.size]? = some (.cells #[.int .i64 0, .int .i64 0, .int .i64 0, .string ⟨#[]⟩, .slice none 0 0, .int .i64 0] 77 (0, 0)) := by rw [← hx_]; exact heap_alloc_new _ _
              obtain ⟨g9, hg9_⟩ : ∃ q, x0.heap.size = q := ⟨_, rfl⟩
              rw [hg9_] at hh_
              try rw [hg9_]
              have HG9 := Aside0.mk (show wd.heap.size ≤ g9 by rw [← hg9_]; exact HBx0.out.size)
              have HSx16 := Aside0.mk hs_
              have HBx16 := Aside0.mk (below_then HBx0.out HBx0.out.size hs_ : Below wd.heap.size wd x16)
              have HH9 := Aside0.mk hh_
              clear hx_ hs_ hh_ hg9_
              refine hK.out _ _ (pw_cell_below HSx16.out hHeld) (fun hHeld => ?_)
              clear hK K
              refine norm_ (a' := ?_) ?_ ?_
              rotate_left
              · show Act.put _ (some 9) _ = _
                simp only [Act.put, List.setIfInBounds_toArray, List.set_cons_zero, List.set_cons_succ, i64_w, i32_w]
                rfl
              refine one_ (i := 13) (N := some 45) #[true, true, true, true, true, true, true, true, true, true, true, true, true, true, false, false, true, false] rfl rfl (by kernel_rfl) (by decide) (fun K hK => ?_)
              refine goes_ Try.func51 (by kernel_rfl) rfl #[.int .i64 (wrap64 (nv.tdiv 3))] (by rfl) rfl rfl (by simp only [List.map_toArray, List.map_cons, List.map_nil]; rfl) ?_
              with_reducible refine (synodallaw8_List.calls 20 (wrap64 (nv.tdiv 3)) ms _ HMS.out).mono ?_
              rintro e_ x13 ⟨v13, rfl, r_, hs_⟩
              refine ⟨_, rfl, ?_⟩
              have HSx13 := Aside0.mk hs_
              have HBx13 := Aside0.mk (below_then HBx16.out HBx16.out.size hs_ : Below wd.heap.size wd x13)
              obtain ⟨Al, cl, e1_⟩ := Kd.R_slice r_
              subst e1_
              have HOx13 := Aside0.mk (Kd.R_lower r_ HBx16.out.size : Kd.R (Kd.int .i64) 3 x13 wd.heap.size (fun _ => True) (.slice Al ms.length cl) ms)
              clear r_ hs_
              refine hK.out _ _ (pw_cell_below HSx13.out hHeld) (fun hHeld => ?_)
              clear hK K
              refine norm_ (a' := ?_) ?_ ?_
              rotate_left
              · show Act.put _ (some 45) _ = _
                simp only [Act.put, List.setIfInBounds_toArray, List.set_cons_zero, List.set_cons_succ, i64_w, i32_w]
                rfl
              refine pure_ (i := 14) (N := some 46) (v := ?_) (a' := ?_) #[true, true, true, true, true, true, true, true, true, true, true, true, true, true, true, false, true, false] rfl rfl (by kernel_rfl) (fun _ _ _ h => h) (Or.inl ⟨by rfl, ?_⟩) ?_ ?_
              rotate_left
              · intro w'
                go_simp
                with_reducible rfl
              rotate_left
              · simp only [Act.put, List.setIfInBounds_toArray, List.set_cons_zero, List.set_cons_succ, i64_w, i32_w]
                rfl
              refine one_ (i := 15) (N := some 47) #[true, true, true, true, true, true, true, true, true, true, true, true, true, true, true, true, true, false] rfl rfl (by kernel_rfl) (by decide) (fun K hK => ?_)
              have hg15 := synodallaw2_Good.calls 5 (rd [2, 4, 1] u) 0 0 ⟨#[]⟩ _ (.slice Al ms.length cl) ms 0 (rd [2, 4, 1] u) 0 0 ⟨#[]⟩ ms 0 wd x13 HBx13.out (Kd.R_tight rfl HOx13.out) (good_e (rd [2, 4, 1] u) ms (kd_cases u hu0 hu1) HM7.out)
              refine goes_ Try.func50 (by kernel_rfl) rfl #[.agg #[.int .i64 (rd [2, 4, 1] u), .int .i64 0, .int .i64 0, .string ⟨#[]⟩, .slice Al ms.length cl, .int .i64 0]] (by rfl) rfl rfl (by simp only [List.map_toArray, List.map_cons, List.map_nil]; rfl) ?_
              with_reducible refine (hg15).mono ?_
              rintro e_ x15 ⟨v15, rfl, r_, hb15_, hk15_⟩
              refine ⟨_, rfl, ?_⟩
              have HBx15 := Aside0.mk hb15_
              have HKx15 := Aside0.mk hk15_
              obtain ⟨Am, cm, e1_⟩ := Kd.R_slice r_
              subst e1_
              have HR15 := Aside0.mk r_
              clear r_ hb15_ hk15_ hg15
              refine hK.out _ _ (pw_cell_below HBx15.out hHX) (fun hHeld => ?_)
              clear hK K
              refine norm_ (a' := ?_) ?_ ?_
              rotate_left
              · show Act.put _ (some 47) _ = _
                simp only [Act.put, List.setIfInBounds_toArray, List.set_cons_zero, List.set_cons_succ, i64_w, i32_w]
                rfl
              exact norm_ (by simp only [putAll, Act.put, List.setIfInBounds_toArray, List.set_cons_zero, List.set_cons_succ]) (hCont ((Value.slice (some ⟨g0, 0, none⟩) 3 cap0), u, (Value.pointer (some ⟨g0, u.toNat, none⟩)), (rd [2, 4, 1] u), (Value.slice Al ms.length cl), (Value.agg #[.int .i64 (rd [2, 4, 1] u), .int .i64 0, .int .i64 0, .string ⟨#[]⟩, .slice Al ms.length cl, .int .i64 0]), (Value.agg #[.int .i64 (rd [2, 4, 1] u), .int .i64 0, .int .i64 0, .string ⟨#[]⟩, .slice Am ms.length cm, .int .i64 0]), g9) _ ⟨HBx15.out, kd_cases u hu0 hu1, ⟨Am, cm, rfl, Kd.R_mono HR15.out (fun _ _ => trivial)⟩, ((HKx15.out.2 _ (blk_lt (blk_below HH9.out HSx13.out)) (fun he_ => own_ne (Kd.own_of_R HOx13.out) (blk_below HH9.out HSx13.out) (by decide) he_)).trans (blk_below HH9.out HSx13.out)), HG9.out⟩)
          · skip
            refine goes_ Try.func51 (by kernel_rfl) rfl #[.int .i64 (wrap64 (nv.tdiv 3))] (by rfl) rfl rfl (by simp only [List.map_toArray, List.map_cons, List.map_nil]; rfl) ?_
            with_reducible refine (synodallaw8_List.calls 20 (wrap64 (nv.tdiv 3)) ms _ HMS.out).mono ?_
            rintro e_ x13 ⟨v13, rfl, r_, hs_⟩
            refine ⟨_, rfl, ?_⟩
            have HSx13 := Aside0.mk hs_
            have HBx13 := Aside0.mk (below_then HBx0.out HBx0.out.size hs_ : Below wd.heap.size wd x13)
            obtain ⟨Al, cl, e1_⟩ := Kd.R_slice r_
            subst e1_
            have HOx13 := Aside0.mk (Kd.R_lower r_ HBx0.out.size : Kd.R (Kd.int .i64) 3 x13 wd.heap.size (fun _ => True) (.slice Al ms.length cl) ms)
            clear r_ hs_
            refine hK.out _ _ (pw_cell_below HSx13.out hHeld) (fun hHeld => ?_)
            clear hK K
            refine norm_ (a' := ?_) ?_ ?_
            rotate_left
            · show Act.put _ (some 45) _ = _
              simp only [Act.put, List.setIfInBounds_toArray, List.set_cons_zero, List.set_cons_succ, i64_w, i32_w]
              rfl
            refine two_ (i := 7) (j := 16) (Ni := some 39) (Nj := some 9) #[true, true, true, true, true, true, true, true, true, true, true, true, true, true, false, false, false, false] #[true, true, true, true, true, true, true, false, true, true, true, true, true, true, false, false, true, false] rfl rfl rfl rfl (by kernel_rfl) (by decide) (by decide) (fun K hK => ?_) (fun K hK => ?_)
            · skip
              obtain ⟨ad7, e7_, hc7⟩ := Kd.at_int (Kd.C_below HR0.out HSx13.out) u hu0 (by simpa using hu1)
              injection e7_ with e7_
              subst e7_
              try rw [add_plain] at hc7
              refine value_ (w1 := ?_) (v := ?_) (by rfl) rfl ?_ ?_
              rotate_left 2
              · go_simp
                constructor
                · rfl
                · rfl
              refine hK.out _ _ (hHeld) (fun hHeld => ?_)
              clear hK K
              refine norm_ (a' := ?_) ?_ ?_
              rotate_left
              · show Act.put _ (some 39) _ = _
                simp only [Act.put, List.setIfInBounds_toArray, List.set_cons_zero, List.set_cons_succ, i64_w, i32_w]
                rfl
              refine pure_ (i := 14) (N := some 46) (v := ?_) (a' := ?_) #[true, true, true, true, true, true, true, true, true, true, true, true, true, true, true, false, false, false] rfl rfl (by kernel_rfl) (fun _ _ _ h => h) (Or.inl ⟨by rfl, ?_⟩) ?_ ?_
              rotate_left
              · intro w'
                go_simp
                with_reducible rfl
              rotate_left
              · simp only [Act.put, List.setIfInBounds_toArray, List.set_cons_zero, List.set_cons_succ, i64_w, i32_w]
                rfl
              refine two_ (i := 15) (j := 16) (Ni := some 47) (Nj := some 9) #[true, true, true, true, true, true, true, true, true, true, true, true, true, true, true, true, false, false] #[true, true, true, true, true, true, true, true, true, true, true, true, true, true, true, false, true, false] rfl rfl rfl rfl (by kernel_rfl) (by decide) (by decide) (fun K hK => ?_) (fun K hK => ?_)
              · skip
                have hg15 := synodallaw2_Good.calls 5 (rd [2, 4, 1] u) 0 0 ⟨#[]⟩ _ (.slice Al ms.length cl) ms 0 (rd [2, 4, 1] u) 0 0 ⟨#[]⟩ ms 0 wd x13 HBx13.out (Kd.R_tight rfl HOx13.out) (good_e (rd [2, 4, 1] u) ms (kd_cases u hu0 hu1) HM7.out)
                refine goes_ Try.func50 (by kernel_rfl) rfl #[.agg #[.int .i64 (rd [2, 4, 1] u), .int .i64 0, .int .i64 0, .string ⟨#[]⟩, .slice Al ms.length cl, .int .i64 0]] (by rfl) rfl rfl (by simp only [List.map_toArray, List.map_cons, List.map_nil]; rfl) ?_
                with_reducible refine (hg15).mono ?_
                rintro e_ x15 ⟨v15, rfl, r_, hb15_, hk15_⟩
                refine ⟨_, rfl, ?_⟩
                have HBx15 := Aside0.mk hb15_
                have HKx15 := Aside0.mk hk15_
                obtain ⟨Am, cm, e1_⟩ := Kd.R_slice r_
                subst e1_
                have HR15 := Aside0.mk r_
                clear r_ hb15_ hk15_ hg15
                refine hK.out _ _ (pw_cell_below HBx15.out hHX) (fun hHeld => ?_)
                clear hK K
                refine norm_ (a' := ?_) ?_ ?_
                rotate_left
                · show Act.put _ (some 47) _ = _
                  simp only [Act.put, List.setIfInBounds_toArray, List.set_cons_zero, List.set_cons_succ, i64_w, i32_w]
                  rfl
                refine one_ (i := 16) (N := some 9) #[true, true, true, true, true, true, true, true, true, true, true, true, true, true, true, true, true, false] rfl rfl (by kernel_rfl) (by decide) (fun K hK => ?_)
                refine value_ (w1 := ?_) (v := ?_) (by rfl) rfl ?_ ?_
                rotate_left 2
                · go_simp
                  constructor
                  · rfl
                  · rfl
                generalize hx_ : World.alloc x15 _ = x16
                have hs_ : Below x15.heap.size x15 x16 := by rw [← hx_]; exact below_alloc (Below.refl _ _) _
                have hh_ : x16.heap[x15.heap.size]? = some (.cells #[.int .i64 0, .int .i64 0, .int .i64 0, .string ⟨#[]⟩, .slice none 0 0, .int .i64 0] 77 (0, 0)) := by rw [← hx_]; exact heap_alloc_new _ _
                obtain ⟨g9, hg9_⟩ : ∃ q, x15.heap.size = q := ⟨_, rfl⟩
                rw [hg9_] at hh_
                try rw [hg9_]
                have HG9 := Aside0.mk (show wd.heap.size ≤ g9 by rw [← hg9_]; exact HBx15.out.size)
                have HSx16 := Aside0.mk hs_
                have HBx16 := Aside0.mk (below_then HBx15.out HBx15.out.size hs_ : Below wd.heap.size wd x16)
                have HH9 := Aside0.mk hh_
                clear hx_ hs_ hh_ hg9_
                refine hK.out _ _ (pw_cell_below HSx16.out hHeld) (fun hHeld => ?_)
                clear hK K
                refine norm_ (a' := ?_) ?_ ?_
                rotate_left
                · show Act.put _ (some 9) _ = _
                  simp only [Act.put, List.setIfInBounds_toArray, List.set_cons_zero, List.set_cons_succ, i64_w, i32_w]
                  rfl
                exact norm_ (by simp only [putAll, Act.put, List.setIfInBounds_toArray, List.set_cons_zero, List.set_cons_succ]) (hCont ((Value.slice (some ⟨g0, 0, none⟩) 3 cap0), u, (Value.pointer (some ⟨g0, u.toNat, none⟩)), (rd [2, 4, 1] u), (Value.slice Al ms.length cl), (Value.agg #[.int .i64 (rd [2, 4, 1] u), .int .i64 0, .int .i64 0, .string ⟨#[]⟩, .slice Al ms.length cl, .int .i64 0]), (Value.agg #[.int .i64 (rd [2, 4, 1] u), .int .i64 0, .int .i64 0, .string ⟨#[]⟩, .slice Am ms.length cm, .int .i64 0]), g9) _ ⟨HBx16.out, kd_cases u hu0 hu1, ⟨Am, cm, rfl, Kd.R_mono (Kd.R_below HR15.out HSx16.out) (fun _ _ => trivial)⟩, HH9.out, HG9.out⟩)
              · skip
                refine value_ (w1 := ?_) (v := ?_) (by rfl) rfl ?_ ?_
                rotate_left 2
                · go_simp
                  constructor
                  · rfl
                  · rfl
                generalize hx_ : World.alloc x13 _ = x16
                have hs_ : Below x13.heap.size x13 x16 := by rw [← hx_]; exact below_alloc (Below.refl _ _) _
                have hh_ : x16.heap[x13.heap.size]? = some (.cells #[.int .i64 0, .int .i64 0, .int .i64 0, .string ⟨#[]⟩, .slice none 0 0, .int .i64 0] 77 (0, 0)) := by rw [← hx_]; exact heap_alloc_new _ _
                obtain ⟨g9, hg9_⟩ : ∃ q, x13.heap.size = q := ⟨_, rfl⟩
                rw [hg9_] at hh_
                try rw [hg9_]
                have HG9 := Aside0.mk (show wd.heap.size ≤ g9 by rw [← hg9_]; exact HBx13.out.size)
                have HSx16 := Aside0.mk hs_
                have HBx16 := Aside0.mk (below_then HBx13.out HBx13.out.size hs_ : Below wd.heap.size wd x16)
                have HH9 := Aside0.mk hh_
                clear hx_ hs_ hh_ hg9_
                refine hK.out _ _ (pw_cell_below HSx16.out hHeld) (fun hHeld => ?_)
                clear hK K
                refine norm_ (a' := ?_) ?_ ?_
                rotate_left
                · show Act.put _ (some 9) _ = _
                  simp only [Act.put, List.setIfInBounds_toArray, List.set_cons_zero, List.set_cons_succ, i64_w, i32_w]
                  rfl
                refine one_ (i := 15) (N := some 47) #[true, true, true, true, true, true, true, true, true, true, true, true, true, true, true, true, true, false] rfl rfl (by kernel_rfl) (by decide) (fun K hK => ?_)
                have hg15 := synodallaw2_Good.calls 5 (rd [2, 4, 1] u) 0 0 ⟨#[]⟩ _ (.slice Al ms.length cl) ms 0 (rd [2, 4, 1] u) 0 0 ⟨#[]⟩ ms 0 wd x16 HBx16.out (Kd.R_tight rfl (Kd.R_below HOx13.out HSx16.out)) (good_e (rd [2, 4, 1] u) ms (kd_cases u hu0 hu1) HM7.out)
                refine goes_ Try.func50 (by kernel_rfl) rfl #[.agg #[.int .i64 (rd [2, 4, 1] u), .int .i64 0, .int .i64 0, .string ⟨#[]⟩, .slice Al ms.length cl, .int .i64 0]] (by rfl) rfl rfl (by simp only [List.map_toArray, List.map_cons, List.map_nil]; rfl) ?_
                with_reducible refine (hg15).mono ?_
                rintro e_ x15 ⟨v15, rfl, r_, hb15_, hk15_⟩
                refine ⟨_, rfl, ?_⟩
                have HBx15 := Aside0.mk hb15_
                have HKx15 := Aside0.mk hk15_
                obtain ⟨Am, cm, e1_⟩ := Kd.R_slice r_
                subst e1_
                have HR15 := Aside0.mk r_
                clear r_ hb15_ hk15_ hg15
                refine hK.out _ _ (pw_cell_below HBx15.out hHX) (fun hHeld => ?_)
                clear hK K
                refine norm_ (a' := ?_) ?_ ?_
                rotate_left
                · show Act.put _ (some 47) _ = _
                  simp only [Act.put, List.setIfInBounds_toArray, List.set_cons_zero, List.set_cons_succ, i64_w, i32_w]
                  rfl
                exact norm_ (by simp only [putAll, Act.put, List.setIfInBounds_toArray, List.set_cons_zero, List.set_cons_succ]) (hCont ((Value.slice (some ⟨g0, 0, none⟩) 3 cap0), u, (Value.pointer (some ⟨g0, u.toNat, none⟩)), (rd [2, 4, 1] u), (Value.slice Al ms.length cl), (Value.agg #[.int .i64 (rd [2, 4, 1] u), .int .i64 0, .int .i64 0, .string ⟨#[]⟩, .slice Al ms.length cl, .int .i64 0]), (Value.agg #[.int .i64 (rd [2, 4, 1] u), .int .i64 0, .int .i64 0, .string ⟨#[]⟩, .slice Am ms.length cm, .int .i64 0]), g9) _ ⟨HBx15.out, kd_cases u hu0 hu1, ⟨Am, cm, rfl, Kd.R_mono HR15.out (fun _ _ => trivial)⟩, ((HKx15.out.2 _ (blk_lt HH9.out) (fun he_ => own_ne (Kd.own_of_R (Kd.R_below HOx13.out HSx16.out)) HH9.out (by decide) he_)).trans HH9.out), HG9.out⟩)
            · skip
              refine value_ (w1 := ?_) (v := ?_) (by rfl) rfl ?_ ?_
              rotate_left 2
              · go_simp
                constructor
                · rfl
                · rfl
              generalize hx_ : World.alloc x13 _ = x16
              have hs_ : Below x13.heap.size x13 x16 := by rw [← hx_]; exact below_alloc (Below.refl _ _) _
              have hh_ : x16.heap[x13.heap.size]? = some (.cells #[.int .i64 0, .int .i64 0, .int .i64 0, .string ⟨#[]⟩, .slice none 0 0, .int .i64 0] 77 (0, 0)) := by rw [← hx_]; exact heap_alloc_new _ _
              obtain ⟨g9, hg9_⟩ : ∃ q, x13.heap.size = q := ⟨_, rfl⟩
              rw [hg9_] at hh_
              try rw [hg9_]
              have HG9 := Aside0.mk (show wd.heap.size ≤ g9 by rw [← hg9_]; exact HBx13.out.size)
              have HSx16 := Aside0.mk hs_
              have HBx16 := Aside0.mk (below_then HBx13.out HBx13.out.size hs_ : Below wd.heap.size wd x16)
              have HH9 := Aside0.mk hh_
              clear hx_ hs_ hh_ hg9_
              refine hK.out _ _ (pw_cell_below HSx16.out hHeld) (fun hHeld => ?_)
              clear hK K
              refine norm_ (a' := ?_) ?_ ?_
              rotate_left
              · show Act.put _ (some 9) _ = _
                simp only [Act.put, List.setIfInBounds_toArray, List.set_cons_zero, List.set_cons_succ, i64_w, i32_w]
                rfl
              refine one_ (i := 7) (N := some 39) #[true, true, true, true, true, true, true, true, true, true, true, true, true, true, false, false, true, false] rfl rfl (by kernel_rfl) (by decide) (fun K hK => ?_)
              obtain ⟨ad7, e7_, hc7⟩ := Kd.at_int (Kd.C_below (Kd.C_below HR0.out HSx13.out) HSx16.out) u hu0 (by simpa using hu1)
              injection e7_ with e7_
              subst e7_
              try rw [add_plain] at hc7
              refine value_ (w1 := ?_) (v := ?_) (by rfl) rfl ?_ ?_
              rotate_left 2
              · go_simp
                constructor
                · rfl
                · rfl
              refine hK.out _ _ (hHeld) (fun hHeld => ?_)
              clear hK K
              refine norm_ (a' := ?_) ?_ ?_
              rotate_left
              · show Act.put _ (some 39) _ = _
                simp only [Act.put, List.setIfInBounds_toArray, List.set_cons_zero, List.set_cons_succ, i64_w, i32_w]
                rfl
              refine pure_ (i := 14) (N := some 46) (v := ?_) (a' := ?_) #[true, true, true, true, true, true, true, true, true, true, true, true, true, true, true, false, true, false] rfl rfl (by kernel_rfl) (fun _ _ _ h => h) (Or.inl ⟨by rfl, ?_⟩) ?_ ?_
              rotate_left
              · intro w'
                go_simp
                with_reducible rfl
              rotate_left
              · simp only [Act.put, List.setIfInBounds_toArray, List.set_cons_zero, List.set_cons_succ, i64_w, i32_w]
                rfl
              refine one_ (i := 15) (N := some 47) #[true, true, true, true, true, true, true, true, true, true, true, true, true, true, true, true, true, false] rfl rfl (by kernel_rfl) (by decide) (fun K hK => ?_)
              have hg15 := synodallaw2_Good.calls 5 (rd [2, 4, 1] u) 0 0 ⟨#[]⟩ _ (.slice Al ms.length cl) ms 0 (rd [2, 4, 1] u) 0 0 ⟨#[]⟩ ms 0 wd x16 HBx16.out (Kd.R_tight rfl (Kd.R_below HOx13.out HSx16.out)) (good_e (rd [2, 4, 1] u) ms (kd_cases u hu0 hu1) HM7.out)
              refine goes_ Try.func50 (by kernel_rfl) rfl #[.agg #[.int .i64 (rd [2, 4, 1] u), .int .i64 0, .int .i64 0, .string ⟨#[]⟩, .slice Al ms.length cl, .int .i64 0]] (by rfl) rfl rfl (by simp only [List.map_toArray, List.map_cons, List.map_nil]; rfl) ?_
              with_reducible refine (hg15).mono ?_
              rintro e_ x15 ⟨v15, rfl, r_, hb15_, hk15_⟩
              refine ⟨_, rfl, ?_⟩
              have HBx15 := Aside0.mk hb15_
              have HKx15 := Aside0.mk hk15_
              obtain ⟨Am, cm, e1_⟩ := Kd.R_slice r_
              subst e1_
              have HR15 := Aside0.mk r_
              clear r_ hb15_ hk15_ hg15
              refine hK.out _ _ (pw_cell_below HBx15.out hHX) (fun hHeld => ?_)
              clear hK K
              refine norm_ (a' := ?_) ?_ ?_
              rotate_left
              · show Act.put _ (some 47) _ = _
                simp only [Act.put, List.setIfInBounds_toArray, List.set_cons_zero, List.set_cons_succ, i64_w, i32_w]
                rfl
              exact norm_ (by simp only [putAll, Act.put, List.setIfInBounds_toArray, List.set_cons_zero, List.set_cons_succ]) (hCont ((Value.slice (some ⟨g0, 0, none⟩) 3 cap0), u, (Value.pointer (some ⟨g0, u.toNat, none⟩)), (rd [2, 4, 1] u), (Value.slice Al ms.length cl), (Value.agg #[.int .i64 (rd [2, 4, 1] u), .int .i64 0, .int .i64 0, .string ⟨#[]⟩, .slice Al ms.length cl, .int .i64 0]), (Value.agg #[.int .i64 (rd [2, 4, 1] u), .int .i64 0, .int .i64 0, .string ⟨#[]⟩, .slice Am ms.length cm, .int .i64 0]), g9) _ ⟨HBx15.out, kd_cases u hu0 hu1, ⟨Am, cm, rfl, Kd.R_mono HR15.out (fun _ _ => trivial)⟩, ((HKx15.out.2 _ (blk_lt HH9.out) (fun he_ => own_ne (Kd.own_of_R (Kd.R_below HOx13.out HSx16.out)) HH9.out (by decide) he_)).trans HH9.out), HG9.out⟩)
          · skip
            refine value_ (w1 := ?_) (v := ?_) (by rfl) rfl ?_ ?_
            rotate_left 2
            · go_simp
              constructor
              · rfl
              · rfl
            generalize hx_ : World.alloc x0 _ = x16
            have hs_ : Below x0.heap.size x0 x16 := by rw [← hx_]; exact below_alloc (Below.refl _ _) _
            have hh_ : x16.heap[x0.heap.size]? = some (.cells #[.int .i64 0, .int .i64 0, .int .i64 0, .string ⟨#[]⟩, .slice none 0 0, .int .i64 0] 77 (0, 0)) := by rw [← hx_]; exact heap_alloc_new _ _
            obtain ⟨g9, hg9_⟩ : ∃ q, x0.heap.size = q := ⟨_, rfl⟩
            rw [hg9_] at hh_
            try rw [hg9_]
            have HG9 := Aside0.mk (show wd.heap.size ≤ g9 by rw [← hg9_]; exact HBx0.out.size)
            have HSx16 := Aside0.mk hs_
            have HBx16 := Aside0.mk (below_then HBx0.out HBx0.out.size hs_ : Below wd.heap.size wd x16)
            have HH9 := Aside0.mk hh_
            clear hx_ hs_ hh_ hg9_
            refine hK.out _ _ (pw_cell_below HSx16.out hHeld) (fun hHeld => ?_)
            clear hK K
            refine norm_ (a' := ?_) ?_ ?_
            rotate_left
            · show Act.put _ (some 9) _ = _
              simp only [Act.put, List.setIfInBounds_toArray, List.set_cons_zero, List.set_cons_succ, i64_w, i32_w]
              rfl
            refine two_ (i := 7) (j := 13) (Ni := some 39) (Nj := some 45) #[true, true, true, true, true, true, true, true, true, true, true, true, true, false, false, false, true, false] #[true, true, true, true, true, true, true, false, true, true, true, true, true, true, false, false, true, false] rfl rfl rfl rfl (by kernel_rfl) (by decide) (by decide) (fun K hK => ?_) (fun K hK => ?_)
            · skip
              obtain ⟨ad7, e7_, hc7⟩ := Kd.at_int (Kd.C_below HR0.out HSx16.out) u hu0 (by simpa using hu1)
              injection e7_ with e7_
              subst e7_
              try rw [add_plain] at hc7
              refine value_ (w1 := ?_) (v := ?_) (by rfl) rfl ?_ ?_
              rotate_left 2
              · go_simp
                constructor
                · rfl
                · rfl
              refine hK.out _ _ (hHeld) (fun hHeld => ?_)
              clear hK K
              refine norm_ (a' := ?_) ?_ ?_
              rotate_left
              · show Act.put _ (some 39) _ = _
                simp only [Act.put, List.setIfInBounds_toArray, List.set_cons_zero, List.set_cons_succ, i64_w, i32_w]
                rfl
              refine one_ (i := 13) (N := some 45) #[true, true, true, true, true, true, true, true, true, true, true, true, true, true, false, false, true, false] rfl rfl (by kernel_rfl) (by decide) (fun K hK => ?_)
              refine goes_ Try.func51 (by kernel_rfl) rfl #[.int .i64 (wrap64 (nv.tdiv 3))] (by rfl) rfl rfl (by simp only [List.map_toArray, List.map_cons, List.map_nil]; rfl) ?_
              with_reducible refine (synodallaw8_List.calls 20 (wrap64 (nv.tdiv 3)) ms _ HMS.out).mono ?_
              rintro e_ x13 ⟨v13, rfl, r_, hs_⟩
              refine ⟨_, rfl, ?_⟩
              have HSx13 := Aside0.mk hs_
              have HBx13 := Aside0.mk (below_then HBx16.out HBx16.out.size hs_ : Below wd.heap.size wd x13)
              obtain ⟨Al, cl, e1_⟩ := Kd.R_slice r_
              subst e1_
              have HOx13 := Aside0.mk (Kd.R_lower r_ HBx16.out.size : Kd.R (Kd.int .i64) 3 x13 wd.heap.size (fun _ => True) (.slice Al ms.length cl) ms)
              clear r_ hs_
              refine hK.out _ _ (pw_cell_below HSx13.out hHeld) (fun hHeld => ?_)
              clear hK K
              refine norm_ (a' := ?_) ?_ ?_
              rotate_left
              · show Act.put _ (some 45) _ = _
                simp only [Act.put, List.setIfInBounds_toArray, List.set_cons_zero, List.set_cons_succ, i64_w, i32_w]
                rfl
              refine pure_ (i := 14) (N := some 46) (v := ?_) (a' := ?_) #[true, true, true, true, true, true, true, true, true, true, true, true, true, true, true, false, true, false] rfl rfl (by kernel_rfl) (fun _ _ _ h => h) (Or.inl ⟨by rfl, ?_⟩) ?_ ?_
              rotate_left
              · intro w'
                go_simp
                with_reducible rfl
              rotate_left
              · simp only [Act.put, List.setIfInBounds_toArray, List.set_cons_zero, List.set_cons_succ, i64_w, i32_w]
                rfl
              refine one_ (i := 15) (N := some 47) #[true, true, true, true, true, true, true, true, true, true, true, true, true, true, true, true, true, false] rfl rfl (by kernel_rfl) (by decide) (fun K hK => ?_)
              have hg15 := synodallaw2_Good.calls 5 (rd [2, 4, 1] u) 0 0 ⟨#[]⟩ _ (.slice Al ms.length cl) ms 0 (rd [2, 4, 1] u) 0 0 ⟨#[]⟩ ms 0 wd x13 HBx13.out (Kd.R_tight rfl HOx13.out) (good_e (rd [2, 4, 1] u) ms (kd_cases u hu0 hu1) HM7.out)
              refine goes_ Try.func50 (by kernel_rfl) rfl #[.agg #[.int .i64 (rd [2, 4, 1] u), .int .i64 0, .int .i64 0, .string ⟨#[]⟩, .slice Al ms.length cl, .int .i64 0]] (by rfl) rfl rfl (by simp only [List.map_toArray, List.map_cons, List.map_nil]; rfl) ?_
              with_reducible refine (hg15).mono ?_
              rintro e_ x15 ⟨v15, rfl, r_, hb15_, hk15_⟩
              refine ⟨_, rfl, ?_⟩
              have HBx15 := Aside0.mk hb15_
              have HKx15 := Aside0.mk hk15_
              obtain ⟨Am, cm, e1_⟩ := Kd.R_slice r_
              subst e1_
              have HR15 := Aside0.mk r_
              clear r_ hb15_ hk15_ hg15
              refine hK.out _ _ (pw_cell_below HBx15.out hHX) (fun hHeld => ?_)
              clear hK K
              refine norm_ (a' := ?_) ?_ ?_
              rotate_left
              · show Act.put _ (some 47) _ = _
                simp only [Act.put, List.setIfInBounds_toArray, List.set_cons_zero, List.set_cons_succ, i64_w, i32_w]
                rfl
              exact norm_ (by simp only [putAll, Act.put, List.setIfInBounds_toArray, List.set_cons_zero, List.set_cons_succ]) (hCont ((Value.slice (some ⟨g0, 0, none⟩) 3 cap0), u, (Value.pointer (some ⟨g0, u.toNat, none⟩)), (rd [2, 4, 1] u), (Value.slice Al ms.length cl), (Value.agg #[.int .i64 (rd [2, 4, 1] u), .int .i64 0, .int .i64 0, .string ⟨#[]⟩, .slice Al ms.length cl, .int .i64 0]), (Value.agg #[.int .i64 (rd [2, 4, 1] u), .int .i64 0, .int .i64 0, .string ⟨#[]⟩, .slice Am ms.length cm, .int .i64 0]), g9) _ ⟨HBx15.out, kd_cases u hu0 hu1, ⟨Am, cm, rfl, Kd.R_mono HR15.out (fun _ _ => trivial)⟩, ((HKx15.out.2 _ (blk_lt (blk_below HH9.out HSx13.out)) (fun he_ => own_ne (Kd.own_of_R HOx13.out) (blk_below HH9.out HSx13.out) (by decide) he_)).trans (blk_below HH9.out HSx13.out)), HG9.out⟩)
            · skip
              refine goes_ Try.func51 (by kernel_rfl) rfl #[.int .i64 (wrap64 (nv.tdiv 3))] (by rfl) rfl rfl (by simp only [List.map_toArray, List.map_cons, List.map_nil]; rfl) ?_
              with_reducible refine (synodallaw8_List.calls 20 (wrap64 (nv.tdiv 3)) ms _ HMS.out).mono ?_
              rintro e_ x13 ⟨v13, rfl, r_, hs_⟩
              refine ⟨_, rfl, ?_⟩
              have HSx13 := Aside0.mk hs_
              have HBx13 := Aside0.mk (below_then HBx16.out HBx16.out.size hs_ : Below wd.heap.size wd x13)
              obtain ⟨Al, cl, e1_⟩ := Kd.R_slice r_
              subst e1_
              have HOx13 := Aside0.mk (Kd.R_lower r_ HBx16.out.size : Kd.R (Kd.int .i64) 3 x13 wd.heap.size (fun _ => True) (.slice Al ms.length cl) ms)
              clear r_ hs_
              refine hK.out _ _ (pw_cell_below HSx13.out hHeld) (fun hHeld => ?_)
              clear hK K
              refine norm_ (a' := ?_) ?_ ?_
              rotate_left
              · show Act.put _ (some 45) _ = _
                simp only [Act.put, List.setIfInBounds_toArray, List.set_cons_zero, List.set_cons_succ, i64_w, i32_w]
                rfl
              refine one_ (i := 7) (N := some 39) #[true, true, true, true, true, true, true, true, true, true, true, true, true, true, false, false, true, false] rfl rfl (by kernel_rfl) (by decide) (fun K hK => ?_)
              obtain ⟨ad7, e7_, hc7⟩ := Kd.at_int (Kd.C_below (Kd.C_below HR0.out HSx16.out) HSx13.out) u hu0 (by simpa using hu1)
              injection e7_ with e7_
              subst e7_
              try rw [add_plain] at hc7
              refine value_ (w1 := ?_) (v := ?_) (by rfl) rfl ?_ ?_
              rotate_left 2
              · go_simp
                constructor
                · rfl
                · rfl
              refine hK.out _ _ (hHeld) (fun hHeld => ?_)
              clear hK K
              refine norm_ (a' := ?_) ?_ ?_
              rotate_left
              · show Act.put _ (some 39) _ = _
                simp only [Act.put, List.setIfInBounds_toArray, List.set_cons_zero, List.set_cons_succ, i64_w, i32_w]
                rfl
              refine pure_ (i := 14) (N := some 46) (v := ?_) (a' := ?_) #[true, true, true, true, true, true, true, true, true, true, true, true, true, true, true, false, true, false] rfl rfl (by kernel_rfl) (fun _ _ _ h => h) (Or.inl ⟨by rfl, ?_⟩) ?_ ?_
              rotate_left
              · intro w'
                go_simp
                with_reducible rfl
              rotate_left
              · simp only [Act.put, List.setIfInBounds_toArray, List.set_cons_zero, List.set_cons_succ, i64_w, i32_w]
                rfl
              refine one_ (i := 15) (N := some 47) #[true, true, true, true, true, true, true, true, true, true, true, true, true, true, true, true, true, false] rfl rfl (by kernel_rfl) (by decide) (fun K hK => ?_)
              have hg15 := synodallaw2_Good.calls 5 (rd [2, 4, 1] u) 0 0 ⟨#[]⟩ _ (.slice Al ms.length cl) ms 0 (rd [2, 4, 1] u) 0 0 ⟨#[]⟩ ms 0 wd x13 HBx13.out (Kd.R_tight rfl HOx13.out) (good_e (rd [2, 4, 1] u) ms (kd_cases u hu0 hu1) HM7.out)
              refine goes_ Try.func50 (by kernel_rfl) rfl #[.agg #[.int .i64 (rd [2, 4, 1] u), .int .i64 0, .int .i64 0, .string ⟨#[]⟩, .slice Al ms.length cl, .int .i64 0]] (by rfl) rfl rfl (by simp only [List.map_toArray, List.map_cons, List.map_nil]; rfl) ?_
              with_reducible refine (hg15).mono ?_
              rintro e_ x15 ⟨v15, rfl, r_, hb15_, hk15_⟩
              refine ⟨_, rfl, ?_⟩
              have HBx15 := Aside0.mk hb15_
              have HKx15 := Aside0.mk hk15_
              obtain ⟨Am, cm, e1_⟩ := Kd.R_slice r_
              subst e1_
              have HR15 := Aside0.mk r_
              clear r_ hb15_ hk15_ hg15
              refine hK.out _ _ (pw_cell_below HBx15.out hHX) (fun hHeld => ?_)
              clear hK K
              refine norm_ (a' := ?_) ?_ ?_
              rotate_left
              · show Act.put _ (some 47) _ = _
                simp only [Act.put, List.setIfInBounds_toArray, List.set_cons_zero, List.set_cons_succ, i64_w, i32_w]
                rfl
              exact norm_ (by simp only [putAll, Act.put, List.setIfInBounds_toArray, List.set_cons_zero, List.set_cons_succ]) (hCont ((Value.slice (some ⟨g0, 0, none⟩) 3 cap0), u, (Value.pointer (some ⟨g0, u.toNat, none⟩)), (rd [2, 4, 1] u), (Value.slice Al ms.length cl), (Value.agg #[.int .i64 (rd [2, 4, 1] u), .int .i64 0, .int .i64 0, .string ⟨#[]⟩, .slice Al ms.length cl, .int .i64 0]), (Value.agg #[.int .i64 (rd [2, 4, 1] u), .int .i64 0, .int .i64 0, .string ⟨#[]⟩, .slice Am ms.length cm, .int .i64 0]), g9) _ ⟨HBx15.out, kd_cases u hu0 hu1, ⟨Am, cm, rfl, Kd.R_mono HR15.out (fun _ _ => trivial)⟩, ((HKx15.out.2 _ (blk_lt (blk_below HH9.out HSx13.out)) (fun he_ => own_ne (Kd.own_of_R HOx13.out) (blk_below HH9.out HSx13.out) (by decide) he_)).trans (blk_below HH9.out HSx13.out)), HG9.out⟩)
        · skip
          refine goes_ Try.func51 (by kernel_rfl) rfl #[.int .i64 (wrap64 (nv.tdiv 3))] (by rfl) rfl rfl (by simp only [List.map_toArray, List.map_cons, List.map_nil]; rfl) ?_
          with_reducible refine (synodallaw8_List.calls 20 (wrap64 (nv.tdiv 3)) ms _ HMS.out).mono ?_
          rintro e_ x13 ⟨v13, rfl, r_, hs_⟩
          refine ⟨_, rfl, ?_⟩
          have HSx13 := Aside0.mk hs_
          have HBx13 := Aside0.mk (below_then HBx5.out HBx5.out.size hs_ : Below wd.heap.size wd x13)
          obtain ⟨Al, cl, e1_⟩ := Kd.R_slice r_
          subst e1_
          have HOx13 := Aside0.mk (Kd.R_lower r_ HBx5.out.size : Kd.R (Kd.int .i64) 3 x13 wd.heap.size (fun _ => True) (.slice Al ms.length cl) ms)
          clear r_ hs_
          refine hK.out _ _ (pw_cell_below HSx13.out hHeld) (fun hHeld => ?_)
          clear hK K
          refine norm_ (a' := ?_) ?_ ?_
          rotate_left
          · show Act.put _ (some 45) _ = _
            simp only [Act.put, List.setIfInBounds_toArray, List.set_cons_zero, List.set_cons_succ, i64_w, i32_w]
            rfl
          refine two_ (i := 0) (j := 16) (Ni := some 32) (Nj := some 9) #[true, true, true, true, true, true, false, false, true, true, true, true, true, true, false, false, false, false] #[false, true, true, true, true, true, false, false, true, true, true, true, true, true, false, false, true, false] rfl rfl rfl rfl (by kernel_rfl) (by decide) (by decide) (fun K hK => ?_) (fun K hK => ?_)
          · skip
            refine Kd.R_lit_step (Kd.int .i64) (w0 := x13) x13.heap.size 3 (by rfl) (N := 32) rfl (xs := [2, 4, 1]) (inner := [.int .i64 2, .int .i64 4, .int .i64 1]) (ok := fun _ => True) (okp := fun _ => False) ?hr (Reps.cons_ (show (Kd.int .i64).M _ _ _ (2 : Int) [.int .i64 2] from rfl) rfl (Reps.cons_ (show (Kd.int .i64).M _ _ _ (4 : Int) [.int .i64 4] from rfl) rfl (Reps.cons_ (show (Kd.int .i64).M _ _ _ (1 : Int) [.int .i64 1] from rfl) rfl (Reps.none _ _)))) (fun _ h => h.elim) trivial (Below.refl _ _) (Nat.le_refl _) (by simp) ?_
            (case hr => first | (go_simp; done) | (go_simp; rfl))
            intro v0 x0 r_ hs_ g_ n_
            have HSx0 := Aside0.mk hs_
            have HBx0 := Aside0.mk (below_then HBx13.out HBx13.out.size hs_ : Below wd.heap.size wd x0)
            obtain ⟨g0, cap0, e0_, _⟩ := Kd.R_form r_ (by simp)
            have e1_ : v0 = .slice (some ⟨g0, 0, none⟩) 3 cap0 := e0_
            subst e1_
            have HR0 := Aside0.mk (Kd.R_reads' r_).2.2
            clear r_ hs_ g_ n_ e0_
            refine hK.out _ _ (pw_cell_below HSx0.out hHeld) (fun hHeld => ?_)
            clear hK K
            refine norm_ (a' := ?_) ?_ ?_
            rotate_left
            · show Act.put _ (some 32) _ = _
              simp only [Act.put, List.setIfInBounds_toArray, List.set_cons_zero, List.set_cons_succ, i64_w, i32_w]
              rfl
            refine pure_ (i := 6) (N := some 38) (v := ?_) (a' := ?_) #[true, true, true, true, true, true, true, false, true, true, true, true, true, true, false, false, false, false] rfl rfl (by kernel_rfl) (fun _ _ _ h => h) (Or.inl ⟨by rfl, ?_⟩) ?_ ?_
            rotate_left
            · intro w'
              go_simp
              with_reducible rfl
            rotate_left
            · simp only [Act.put, List.setIfInBounds_toArray, List.set_cons_zero, List.set_cons_succ, i64_w, i32_w]
              rfl
            refine two_ (i := 7) (j := 16) (Ni := some 39) (Nj := some 9) #[true, true, true, true, true, true, true, true, true, true, true, true, true, true, false, false, false, false] #[true, true, true, true, true, true, true, false, true, true, true, true, true, true, false, false, true, false] rfl rfl rfl rfl (by kernel_rfl) (by decide) (by decide) (fun K hK => ?_) (fun K hK => ?_)
            · skip
              obtain ⟨ad7, e7_, hc7⟩ := Kd.at_int HR0.out u hu0 (by simpa using hu1)
              injection e7_ with e7_
              subst e7_
              try rw [add_plain] at hc7
              refine value_ (w1 := ?_) (v := ?_) (by rfl) rfl ?_ ?_
              rotate_left 2
              · go_simp
                constructor
                · rfl
                · rfl
              refine hK.out _ _ (hHeld) (fun hHeld => ?_)
              clear hK K
              refine norm_ (a' := ?_) ?_ ?_
              rotate_left
              · show Act.put _ (some 39) _ = _
                simp only [Act.put, List.setIfInBounds_toArray, List.set_cons_zero, List.set_cons_succ, i64_w, i32_w]
                rfl
              refine pure_ (i := 14) (N := some 46) (v := ?_) (a' := ?_) #[true, true, true, true, true, true, true, true, true, true, true, true, true, true, true, false, false, false] rfl rfl (by kernel_rfl) (fun _ _ _ h => h) (Or.inl ⟨by rfl, ?_⟩) ?_ ?_
              rotate_left
              · intro w'
                go_simp
                with_reducible rfl
              rotate_left
              · simp only [Act.put, List.setIfInBounds_toArray, List.set_cons_zero, List.set_cons_succ, i64_w, i32_w]
                rfl
              refine two_ (i := 15) (j := 16) (Ni := some 47) (Nj := some 9) #[true, true, true, true, true, true, true, true, true, true, true, true, true, true, true, true, false, false] #[true, true, true, true, true, true, true, true, true, true, true, true, true, true, true, false, true, false] rfl rfl rfl rfl (by kernel_rfl) (by decide) (by decide) (fun K hK => ?_) (fun K hK => ?_)
              · skip
                have hg15 := synodallaw2_Good.calls 5 (rd [2, 4, 1] u) 0 0 ⟨#[]⟩ _ (.slice Al ms.length cl) ms 0 (rd [2, 4, 1] u) 0 0 ⟨#[]⟩ ms 0 wd x0 HBx0.out (Kd.R_tight rfl (Kd.R_below HOx13.out HSx0.out)) (good_e (rd [2, 4, 1] u) ms (kd_cases u hu0 hu1) HM7.out)
                refine goes_ Try.func50 (by kernel_rfl) rfl #[.agg #[.int .i64 (rd [2, 4, 1] u), .int .i64 0, .int .i64 0, .string ⟨#[]⟩, .slice Al ms.length cl, .int .i64 0]] (by rfl) rfl rfl (by simp only [List.map_toArray, List.map_cons, List.map_nil]; rfl) ?_
                with_reducible refine (hg15).mono ?_
                rintro e_ x15 ⟨v15, rfl, r_, hb15_, hk15_⟩
                refine ⟨_, rfl, ?_⟩
                have HBx15 := Aside0.mk hb15_
                have HKx15 := Aside0.mk hk15_
                obtain ⟨Am, cm, e1_⟩ := Kd.R_slice r_
                subst e1_
                have HR15 := Aside0.mk r_
                clear r_ hb15_ hk15_ hg15
                refine hK.out _ _ (pw_cell_below HBx15.out hHX) (fun hHeld => ?_)
                clear hK K
                refine norm_ (a' := ?_) ?_ ?_
                rotate_left
                · show Act.put _ (some 47) _ = _
                  simp only [Act.put, List.setIfInBounds_toArray, List.set_cons_zero, List.set_cons_succ, i64_w, i32_w]
                  rfl
                refine one_ (i := 16) (N := some 9) #[true, true, true, true, true, true, true, true, true, true, true, true, true, true, true, true, true, false] rfl rfl (by kernel_rfl) (by decide) (fun K hK => ?_)
                refine value_ (w1 := ?_) (v := ?_) (by rfl) rfl ?_ ?_
                rotate_left 2
                · go_simp
                  constructor
                  · rfl
                  · rfl
                generalize hx_ : World.alloc x15 _ = x16
                have hs_ : Below x15.heap.size x15 x16 := by rw [← hx_]; exact below_alloc (Below.refl _ _) _
                have hh_ : x16.heap[x15.heap.size]? = some (.cells #[.int .i64 0, .int .i64 0, .int .i64 0, .string ⟨#[]⟩, .slice none 0 0, .int .i64 0] 77 (0, 0)) := by rw [← hx_]; exact heap_alloc_new _ _
                obtain ⟨g9, hg9_⟩ : ∃ q, x15.heap.size = q := ⟨_, rfl⟩
                rw [hg9_] at hh_
                try rw [hg9_]
                have HG9 := Aside0.mk (show wd.heap.size ≤ g9 by rw [← hg9_]; exact HBx15.out.size)
                have HSx16 := Aside0.mk hs_
                have HBx16 := Aside0.mk (below_then HBx15.out HBx15.out.size hs_ : Below wd.heap.size wd x16)
                have HH9 := Aside0.mk hh_
                clear hx_ hs_ hh_ hg9_
                refine hK.out _ _ (pw_cell_below HSx16.out hHeld) (fun hHeld => ?_)
                clear hK K
                refine norm_ (a' := ?_) ?_ ?_
                rotate_left
                · show Act.put _ (some 9) _ = _
                  simp only [Act.put, List.setIfInBounds_toArray, List.set_cons_zero, List.set_cons_succ, i64_w, i32_w]
                  rfl
                exact norm_ (by simp only [putAll, Act.put, List.setIfInBounds_toArray, List.set_cons_zero, List.set_cons_succ]) (hCont ((Value.slice (some ⟨g0, 0, none⟩) 3 cap0), u, (Value.pointer (some ⟨g0, u.toNat, none⟩)), (rd [2, 4, 1] u), (Value.slice Al ms.length cl), (Value.agg #[.int .i64 (rd [2, 4, 1] u), .int .i64 0, .int .i64 0, .string ⟨#[]⟩, .slice Al ms.length cl, .int .i64 0]), (Value.agg #[.int .i64 (rd [2, 4, 1] u), .int .i64 0, .int .i64 0, .string ⟨#[]⟩, .slice Am ms.length cm, .int .i64 0]), g9) _ ⟨HBx16.out, kd_cases u hu0 hu1, ⟨Am, cm, rfl, Kd.R_mono (Kd.R_below HR15.out HSx16.out) (fun _ _ => trivial)⟩, HH9.out, HG9.out⟩)
              · skip
                refine value_ (w1 := ?_) (v := ?_) (by rfl) rfl ?_ ?_
                rotate_left 2
                · go_simp
                  constructor
                  · rfl
                  · rfl
                generalize hx_ : World.alloc x0 _ = x16
                have hs_ : Below x0.heap.size x0 x16 := by rw [← hx_]; exact below_alloc (Below.refl _ _) _
                have hh_ : x16.heap[x0.heap.size]? = some (.cells #[.int .i64 0, .int .i64 0, .int .i64 0, .string ⟨#[]⟩, .slice none 0 0, .int .i64 0] 77 (0, 0)) := by rw [← hx_]; exact heap_alloc_new _ _
                obtain ⟨g9, hg9_⟩ : ∃ q, x0.heap.size = q := ⟨_, rfl⟩
                rw [hg9_] at hh_
                try rw [hg9_]
                have HG9 := Aside0.mk (show wd.heap.size ≤ g9 by rw [← hg9_]; exact HBx0.out.size)
                have HSx16 := Aside0.mk hs_
                have HBx16 := Aside0.mk (below_then HBx0.out HBx0.out.size hs_ : Below wd.heap.size wd x16)
                have HH9 := Aside0.mk hh_
                clear hx_ hs_ hh_ hg9_
                refine hK.out _ _ (pw_cell_below HSx16.out hHeld) (fun hHeld => ?_)
                clear hK K
                refine norm_ (a' := ?_) ?_ ?_
                rotate_left
                · show Act.put _ (some 9) _ = _
                  simp only [Act.put, List.setIfInBounds_toArray, List.set_cons_zero, List.set_cons_succ, i64_w, i32_w]
                  rfl
                refine one_ (i := 15) (N := some 47) #[true, true, true, true, true, true, true, true, true, true, true, true, true, true, true, true, true, false] rfl rfl (by kernel_rfl) (by decide) (fun K hK => ?_)
                have hg15 := synodallaw2_Good.calls 5 (rd [2, 4, 1] u) 0 0 ⟨#[]⟩ _ (.slice Al ms.length cl) ms 0 (rd [2, 4, 1] u) 0 0 ⟨#[]⟩ ms 0 wd x16 HBx16.out (Kd.R_tight rfl (Kd.R_below (Kd.R_below HOx13.out HSx0.out) HSx16.out)) (good_e (rd [2, 4, 1] u) ms (kd_cases u hu0 hu1) HM7.out)
                refine goes_ Try.func50 (by kernel_rfl) rfl #[.agg #[.int .i64 (rd [2, 4, 1] u), .int .i64 0, .int .i64 0, .string ⟨#[]⟩, .slice Al ms.length cl, .int .i64 0]] (by rfl) rfl rfl (by simp only [List.map_toArray, List.map_cons, List.map_nil]; rfl) ?_
                with_reducible refine (hg15).mono ?_
                rintro e_ x15 ⟨v15, rfl, r_, hb15_, hk15_⟩
                refine ⟨_, rfl, ?_⟩
                have HBx15 := Aside0.mk hb15_
                have HKx15 := Aside0.mk hk15_
                obtain ⟨Am, cm, e1_⟩ := Kd.R_slice r_
                subst e1_
                have HR15 := Aside0.mk r_
                clear r_ hb15_ hk15_ hg15
                refine hK.out _ _ (pw_cell_below HBx15.out hHX) (fun hHeld => ?_)
                clear hK K
                refine norm_ (a' := ?_) ?_ ?_
                rotate_left
                · show Act.put _ (some 47) _ = _
                  simp only [Act.put, List.setIfInBounds_toArray, List.set_cons_zero, List.set_cons_succ, i64_w, i32_w]
                  rfl
                exact norm_ (by simp only [putAll, Act.put, List.setIfInBounds_toArray, List.set_cons_zero, List.set_cons_succ]) (hCont ((Value.slice (some ⟨g0, 0, none⟩) 3 cap0), u, (Value.pointer (some ⟨g0, u.toNat, none⟩)), (rd [2, 4, 1] u), (Value.slice Al ms.length cl), (Value.agg #[.int .i64 (rd [2, 4, 1] u), .int .i64 0, .int .i64 0, .string ⟨#[]⟩, .slice Al ms.length cl, .int .i64 0]), (Value.agg #[.int .i64 (rd [2, 4, 1] u), .int .i64 0, .int .i64 0, .string ⟨#[]⟩, .slice Am ms.length cm, .int .i64 0]), g9) _ ⟨HBx15.out, kd_cases u hu0 hu1, ⟨Am, cm, rfl, Kd.R_mono HR15.out (fun _ _ => trivial)⟩, ((HKx15.out.2 _ (blk_lt HH9.out) (fun he_ => own_ne (Kd.own_of_R (Kd.R_below (Kd.R_below HOx13.out HSx0.out) HSx16.out)) HH9.out (by decide) he_)).trans HH9.out), HG9.out⟩)
            · skip
              refine value_ (w1 := ?_) (v := ?_) (by rfl) rfl ?_ ?_
              rotate_left 2
              · go_simp
                constructor
                · rfl
                · rfl
              generalize hx_ : World.alloc x0 _ = x16
              have hs_ : Below x0.heap.size x0 x16 := by rw [← hx_]; exact below_alloc (Below.refl _ _) _
              have hh_ : x16.heap[x0.heap.size]? = some (.cells #[.int .i64 0, .int .i64 0, .int .i64 0, .string ⟨#[]⟩, .slice none 0 0, .int .i64 0] 77 (0, 0)) := by rw [← hx_]; exact heap_alloc_new _ _
              obtain ⟨g9, hg9_⟩ : ∃ q, x0.heap.size = q := ⟨_, rfl⟩
              rw [hg9_] at hh_
              try rw [hg9_]
              have HG9 := Aside0.mk (show wd.heap.size ≤ g9 by rw [← hg9_]; exact HBx0.out.size)
              have HSx16 := Aside0.mk hs_
              have HBx16 := Aside0.mk (below_then HBx0.out HBx0.out.size hs_ : Below wd.heap.size wd x16)
              have HH9 := Aside0.mk hh_
              clear hx_ hs_ hh_ hg9_
              refine hK.out _ _ (pw_cell_below HSx16.out hHeld) (fun hHeld => ?_)
              clear hK K
              refine norm_ (a' := ?_) ?_ ?_
              rotate_left
              · show Act.put _ (some 9) _ = _
                simp only [Act.put, List.setIfInBounds_toArray, List.set_cons_zero, List.set_cons_succ, i64_w, i32_w]
                rfl
              refine one_ (i := 7) (N := some 39) #[true, true, true, true, true, true, true, true, true, true, true, true, true, true, false, false, true, false] rfl rfl (by kernel_rfl) (by decide) (fun K hK => ?_)
              obtain ⟨ad7, e7_, hc7⟩ := Kd.at_int (Kd.C_below HR0.out HSx16.out) u hu0 (by simpa using hu1)
              injection e7_ with e7_
              subst e7_
              try rw [add_plain] at hc7
              refine value_ (w1 := ?_) (v := ?_) (by rfl) rfl ?_ ?_
              rotate_left 2
              · go_simp
                constructor
                · rfl
                · rfl
              refine hK.out _ _ (hHeld) (fun hHeld => ?_)
              clear hK K
              refine norm_ (a' := ?_) ?_ ?_
              rotate_left
              · show Act.put _ (some 39) _ = _
                simp only [Act.put, List.setIfInBounds_toArray, List.set_cons_zero, List.set_cons_succ, i64_w, i32_w]
                rfl
              refine pure_ (i := 14) (N := some 46) (v := ?_) (a' := ?_) #[true, true, true, true, true, true, true, true, true, true, true, true, true, true, true, false, true, false] rfl rfl (by kernel_rfl) (fun _ _ _ h => h) (Or.inl ⟨by rfl, ?_⟩) ?_ ?_
              rotate_left
              · intro w'
                go_simp
                with_reducible rfl
              rotate_left
              · simp only [Act.put, List.setIfInBounds_toArray, List.set_cons_zero, List.set_cons_succ, i64_w, i32_w]
                rfl
              refine one_ (i := 15) (N := some 47) #[true, true, true, true, true, true, true, true, true, true, true, true, true, true, true, true, true, false] rfl rfl (by kernel_rfl) (by decide) (fun K hK => ?_)
              have hg15 := synodallaw2_Good.calls 5 (rd [2, 4, 1] u) 0 0 ⟨#[]⟩ _ (.slice Al ms.length cl) ms 0 (rd [2, 4, 1] u) 0 0 ⟨#[]⟩ ms 0 wd x16 HBx16.out (Kd.R_tight rfl (Kd.R_below (Kd.R_below HOx13.out HSx0.out) HSx16.out)) (good_e (rd [2, 4, 1] u) ms (kd_cases u hu0 hu1) HM7.out)
              refine goes_ Try.func50 (by kernel_rfl) rfl #[.agg #[.int .i64 (rd [2, 4, 1] u), .int .i64 0, .int .i64 0, .string ⟨#[]⟩, .slice Al ms.length cl, .int .i64 0]] (by rfl) rfl rfl (by simp only [List.map_toArray, List.map_cons, List.map_nil]; rfl) ?_
              with_reducible refine (hg15).mono ?_
              rintro e_ x15 ⟨v15, rfl, r_, hb15_, hk15_⟩
              refine ⟨_, rfl, ?_⟩
              have HBx15 := Aside0.mk hb15_
              have HKx15 := Aside0.mk hk15_
              obtain ⟨Am, cm, e1_⟩ := Kd.R_slice r_
              subst e1_
              have HR15 := Aside0.mk r_
              clear r_ hb15_ hk15_ hg15
              refine hK.out _ _ (pw_cell_below HBx15.out hHX) (fun hHeld => ?_)
              clear hK K
              refine norm_ (a' := ?_) ?_ ?_
              rotate_left
              · show Act.put _ (some 47) _ = _
                simp only [Act.put, List.setIfInBounds_toArray, List.set_cons_zero, List.set_cons_succ, i64_w, i32_w]
                rfl
              exact norm_ (by simp only [putAll, Act.put, List.setIfInBounds_toArray, List.set_cons_zero, List.set_cons_succ]) (hCont ((Value.slice (some ⟨g0, 0, none⟩) 3 cap0), u, (Value.pointer (some ⟨g0, u.toNat, none⟩)), (rd [2, 4, 1] u), (Value.slice Al ms.length cl), (Value.agg #[.int .i64 (rd [2, 4, 1] u), .int .i64 0, .int .i64 0, .string ⟨#[]⟩, .slice Al ms.length cl, .int .i64 0]), (Value.agg #[.int .i64 (rd [2, 4, 1] u), .int .i64 0, .int .i64 0, .string ⟨#[]⟩, .slice Am ms.length cm, .int .i64 0]), g9) _ ⟨HBx15.out, kd_cases u hu0 hu1, ⟨Am, cm, rfl, Kd.R_mono HR15.out (fun _ _ => trivial)⟩, ((HKx15.out.2 _ (blk_lt HH9.out) (fun he_ => own_ne (Kd.own_of_R (Kd.R_below (Kd.R_below HOx13.out HSx0.out) HSx16.out)) HH9.out (by decide) he_)).trans HH9.out), HG9.out⟩)
          · skip
            refine value_ (w1 := ?_) (v := ?_) (by rfl) rfl ?_ ?_
            rotate_left 2
            · go_simp
              constructor
              · rfl
              · rfl
            generalize hx_ : World.alloc x13 _ = x16
            have hs_ : Below x13.heap.size x13 x16 := by rw [← hx_]; exact below_alloc (Below.refl _ _) _
            have hh_ : x16.heap[x13.heap.size]? = some (.cells #[.int .i64 0, .int .i64 0, .int .i64 0, .string ⟨#[]⟩, .slice none 0 0, .int .i64 0] 77 (0, 0)) := by rw [← hx_]; exact heap_alloc_new _ _
            obtain ⟨g9, hg9_⟩ : ∃ q, x13.heap.size = q := ⟨_, rfl⟩
            rw [hg9_] at hh_
            try rw [hg9_]
            have HG9 := Aside0.mk (show wd.heap.size ≤ g9 by rw [← hg9_]; exact HBx13.out.size)
            have HSx16 := Aside0.mk hs_
            have HBx16 := Aside0.mk (below_then HBx13.out HBx13.out.size hs_ : Below wd.heap.size wd x16)
            have HH9 := Aside0.mk hh_
            clear hx_ hs_ hh_ hg9_
            refine hK.out _ _ (pw_cell_below HSx16.out hHeld) (fun hHeld => ?_)
            clear hK K
            refine norm_ (a' := ?_) ?_ ?_
            rotate_left
            · show Act.put _ (some 9) _ = _
              simp only [Act.put, List.setIfInBounds_toArray, List.set_cons_zero, List.set_cons_succ, i64_w, i32_w]
              rfl
            refine one_ (i := 0) (N := some 32) #[true, true, true, true, true, true, false, false, true, true, true, true, true, true, false, false, true, false] rfl rfl (by kernel_rfl) (by decide) (fun K hK => ?_)
            refine Kd.R_lit_step (Kd.int .i64) (w0 := x16) x16.heap.size 3 (by rfl) (N := 32) rfl (xs := [2, 4, 1]) (inner := [.int .i64 2, .int .i64 4, .int .i64 1]) (ok := fun _ => True) (okp := fun _ => False) ?hr (Reps.cons_ (show (Kd.int .i64).M _ _ _ (2 : Int) [.int .i64 2] from rfl) rfl (Reps.cons_ (show (Kd.int .i64).M _ _ _ (4 : Int) [.int .i64 4] from rfl) rfl (Reps.cons_ (show (Kd.int .i64).M _ _ _ (1 : Int) [.int .i64 1] from rfl) rfl (Reps.none _ _)))) (fun _ h => h.elim) trivial (Below.refl _ _) (Nat.le_refl _) (by simp) ?_
            (case hr => first | (go_simp; done) | (go_simp; rfl))
            intro v0 x0 r_ hs_ g_ n_
            have HSx0 := Aside0.mk hs_
            have HBx0 := Aside0.mk (below_then HBx16.out HBx16.out.size hs_ : Below wd.heap.size wd x0)
            obtain ⟨g0, cap0, e0_, _⟩ := Kd.R_form r_ (by simp)
            have e1_ : v0 = .slice (some ⟨g0, 0, none⟩) 3 cap0 := e0_
            subst e1_
            have HR0 := Aside0.mk (Kd.R_reads' r_).2.2
            clear r_ hs_ g_ n_ e0_
            refine hK.out _ _ (pw_cell_below HSx0.out hHeld) (fun hHeld => ?_)
            clear hK K
            refine norm_ (a' := ?_) ?_ ?_
            rotate_left
            · show Act.put _ (some 32) _ = _
              simp only [Act.put, List.setIfInBounds_toArray, List.set_cons_zero, List.set_cons_succ, i64_w, i32_w]
              rfl
            refine pure_ (i := 6) (N := some 38) (v := ?_) (a' := ?_) #[true, true, true, true, true, true, true, false, true, true, true, true, true, true, false, false, true, false] rfl rfl (by kernel_rfl) (fun _ _ _ h => h) (Or.inl ⟨by rfl, ?_⟩) ?_ ?_
            rotate_left
            · intro w'
              go_simp
              with_reducible rfl
            rotate_left
            · simp only [Act.put, List.setIfInBounds_toArray, List.set_cons_zero, List.set_cons_succ, i64_w, i32_w]
              rfl
            refine one_ (i := 7) (N := some 39) #[true, true, true, true, true, true, true, true, true, true, true, true, true, true, false, false, true, false] rfl rfl (by kernel_rfl) (by decide) (fun K hK => ?_)
            obtain ⟨ad7, e7_, hc7⟩ := Kd.at_int HR0.out u hu0 (by simpa using hu1)
            injection e7_ with e7_
            subst e7_
            try rw [add_plain] at hc7
            refine value_ (w1 := ?_) (v := ?_) (by rfl) rfl ?_ ?_
            rotate_left 2
            · go_simp
              constructor
              · rfl
              · rfl
            refine hK.out _ _ (hHeld) (fun hHeld => ?_)
            clear hK K
            refine norm_ (a' := ?_) ?_ ?_
            rotate_left
            · show Act.put _ (some 39) _ = _
              simp only [Act.put, List.setIfInBounds_toArray, List.set_cons_zero, List.set_cons_succ, i64_w, i32_w]
              rfl
            refine pure_ (i := 14) (N := some 46) (v := ?_) (a' := ?_) #[true, true, true, true, true, true, true, true, true, true, true, true, true, true, true, false, true, false] rfl rfl (by kernel_rfl) (fun _ _ _ h => h) (Or.inl ⟨by rfl, ?_⟩) ?_ ?_
            rotate_left
            · intro w'
              go_simp
              with_reducible rfl
            rotate_left
            · simp only [Act.put, List.setIfInBounds_toArray, List.set_cons_zero, List.set_cons_succ, i64_w, i32_w]
              rfl
            refine one_ (i := 15) (N := some 47) #[true, true, true, true, true, true, true, true, true, true, true, true, true, true, true, true, true, false] rfl rfl (by kernel_rfl) (by decide) (fun K hK => ?_)
            have hg15 := synodallaw2_Good.calls 5 (rd [2, 4, 1] u) 0 0 ⟨#[]⟩ _ (.slice Al ms.length cl) ms 0 (rd [2, 4, 1] u) 0 0 ⟨#[]⟩ ms 0 wd x0 HBx0.out (Kd.R_tight rfl (Kd.R_below (Kd.R_below HOx13.out HSx16.out) HSx0.out)) (good_e (rd [2, 4, 1] u) ms (kd_cases u hu0 hu1) HM7.out)
            refine goes_ Try.func50 (by kernel_rfl) rfl #[.agg #[.int .i64 (rd [2, 4, 1] u), .int .i64 0, .int .i64 0, .string ⟨#[]⟩, .slice Al ms.length cl, .int .i64 0]] (by rfl) rfl rfl (by simp only [List.map_toArray, List.map_cons, List.map_nil]; rfl) ?_
            with_reducible refine (hg15).mono ?_
            rintro e_ x15 ⟨v15, rfl, r_, hb15_, hk15_⟩
            refine ⟨_, rfl, ?_⟩
            have HBx15 := Aside0.mk hb15_
            have HKx15 := Aside0.mk hk15_
            obtain ⟨Am, cm, e1_⟩ := Kd.R_slice r_
            subst e1_
            have HR15 := Aside0.mk r_
            clear r_ hb15_ hk15_ hg15
            refine hK.out _ _ (pw_cell_below HBx15.out hHX) (fun hHeld => ?_)
            clear hK K
            refine norm_ (a' := ?_) ?_ ?_
            rotate_left
            · show Act.put _ (some 47) _ = _
              simp only [Act.put, List.setIfInBounds_toArray, List.set_cons_zero, List.set_cons_succ, i64_w, i32_w]
              rfl
            exact norm_ (by simp only [putAll, Act.put, List.setIfInBounds_toArray, List.set_cons_zero, List.set_cons_succ]) (hCont ((Value.slice (some ⟨g0, 0, none⟩) 3 cap0), u, (Value.pointer (some ⟨g0, u.toNat, none⟩)), (rd [2, 4, 1] u), (Value.slice Al ms.length cl), (Value.agg #[.int .i64 (rd [2, 4, 1] u), .int .i64 0, .int .i64 0, .string ⟨#[]⟩, .slice Al ms.length cl, .int .i64 0]), (Value.agg #[.int .i64 (rd [2, 4, 1] u), .int .i64 0, .int .i64 0, .string ⟨#[]⟩, .slice Am ms.length cm, .int .i64 0]), g9) _ ⟨HBx15.out, kd_cases u hu0 hu1, ⟨Am, cm, rfl, Kd.R_mono HR15.out (fun _ _ => trivial)⟩, ((HKx15.out.2 _ (blk_lt (blk_below HH9.out HSx0.out)) (fun he_ => own_ne (Kd.own_of_R (Kd.R_below (Kd.R_below HOx13.out HSx16.out) HSx0.out)) (blk_below HH9.out HSx0.out) (by decide) he_)).trans (blk_below HH9.out HSx0.out)), HG9.out⟩)
        · skip
          refine value_ (w1 := ?_) (v := ?_) (by rfl) rfl ?_ ?_
          rotate_left 2
          · go_simp
            constructor
            · rfl
            · rfl
          generalize hx_ : World.alloc x5 _ = x16
          have hs_ : Below x5.heap.size x5 x16 := by rw [← hx_]; exact below_alloc (Below.refl _ _) _
          have hh_ : x16.heap[x5.heap.size]? = some (.cells #[.int .i64 0, .int .i64 0, .int .i64 0, .string ⟨#[]⟩, .slice none 0 0, .int .i64 0] 77 (0, 0)) := by rw [← hx_]; exact heap_alloc_new _ _
          obtain ⟨g9, hg9_⟩ : ∃ q, x5.heap.size = q := ⟨_, rfl⟩
          rw [hg9_] at hh_
          try rw [hg9_]
          have HG9 := Aside0.mk (show wd.heap.size ≤ g9 by rw [← hg9_]; exact HBx5.out.size)
          have HSx16 := Aside0.mk hs_
          have HBx16 := Aside0.mk (below_then HBx5.out HBx5.out.size hs_ : Below wd.heap.size wd x16)
          have HH9 := Aside0.mk hh_
          clear hx_ hs_ hh_ hg9_
          refine hK.out _ _ (pw_cell_below HSx16.out hHeld) (fun hHeld => ?_)
          clear hK K
          refine norm_ (a' := ?_) ?_ ?_
          rotate_left
          · show Act.put _ (some 9) _ = _
            simp only [Act.put, List.setIfInBounds_toArray, List.set_cons_zero, List.set_cons_succ, i64_w, i32_w]
            rfl
          refine two_ (i := 0) (j := 13) (Ni := some 32) (Nj := some 45) #[true, true, true, true, true, true, false, false, true, true, true, true, true, false, false, false, true, false] #[false, true, true, true, true, true, false, false, true, true, true, true, true, true, false, false, true, false] rfl rfl rfl rfl (by kernel_rfl) (by decide) (by decide) (fun K hK => ?_) (fun K hK => ?_)
          · skip
            refine Kd.R_lit_step (Kd.int .i64) (w0 := x16) x16.heap.size 3 (by rfl) (N := 32) rfl (xs := [2, 4, 1]) (inner := [.int .i64 2, .int .i64 4, .int .i64 1]) (ok := fun _ => True) (okp := fun _ => False) ?hr (Reps.cons_ (show (Kd.int .i64).M _ _ _ (2 : Int) [.int .i64 2] from rfl) rfl (Reps.cons_ (show (Kd.int .i64).M _ _ _ (4 : Int) [.int .i64 4] from rfl) rfl (Reps.cons_ (show (Kd.int .i64).M _ _ _ (1 : Int) [.int .i64 1] from rfl) rfl (Reps.none _ _)))) (fun _ h => h.elim) trivial (Below.refl _ _) (Nat.le_refl _) (by simp) ?_
            (case hr => first | (go_simp; done) | (go_simp; rfl))
            intro v0 x0 r_ hs_ g_ n_
            have HSx0 := Aside0.mk hs_
            have HBx0 := Aside0.mk (below_then HBx16.out HBx16.out.size hs_ : Below wd.heap.size wd x0)
            obtain ⟨g0, cap0, e0_, _⟩ := Kd.R_form r_ (by simp)
            have e1_ : v0 = .slice (some ⟨g0, 0, none⟩) 3 cap0 := e0_
            subst e1_
            have HR0 := Aside0.mk (Kd.R_reads' r_).2.2
            clear r_ hs_ g_ n_ e0_
            refine hK.out _ _ (pw_cell_below HSx0.out hHeld) (fun hHeld => ?_)
            clear hK K
            refine norm_ (a' := ?_) ?_ ?_
            rotate_left
            · show Act.put _ (some 32) _ = _
              simp only [Act.put, List.setIfInBounds_toArray, List.set_cons_zero, List.set_cons_succ, i64_w, i32_w]
              rfl
            refine pure_ (i := 6) (N := some 38) (v := ?_) (a' := ?_) #[true, true, true, true, true, true, true, false, true, true, true, true, true, false, false, false, true, false] rfl rfl (by kernel_rfl) (fun _ _ _ h => h) (Or.inl ⟨by rfl, ?_⟩) ?_ ?_
            rotate_left
            · intro w'
              go_simp
              with_reducible rfl
            rotate_left
            · simp only [Act.put, List.setIfInBounds_toArray, List.set_cons_zero, List.set_cons_succ, i64_w, i32_w]
              rfl
            refine two_ (i := 7) (j := 13) (Ni := some 39) (Nj := some 45) #[true, true, true, true, true, true, true, true, true, true, true, true, true, false, false, false, true, false] #[true, true, true, true, true, true, true, false, true, true, true, true, true, true, false, false, true, false] rfl rfl rfl rfl (by kernel_rfl) (by decide) (by decide) (fun K hK => ?_) (fun K hK => ?_)
            · skip
              obtain ⟨ad7, e7_, hc7⟩ := Kd.at_int HR0.out u hu0 (by simpa using hu1)
              injection e7_ with e7_
              subst e7_
              try rw [add_plain] at hc7
              refine value_ (w1 := ?_) (v := ?_) (by rfl) rfl ?_ ?_
              rotate_left 2
              · go_simp
                constructor
                · rfl
                · rfl
              refine hK.out _ _ (hHeld) (fun hHeld => ?_)
              clear hK K
              refine norm_ (a' := ?_) ?_ ?_
              rotate_left
              · show Act.put _ (some 39) _ = _
                simp only [Act.put, List.setIfInBounds_toArray, List.set_cons_zero, List.set_cons_succ, i64_w, i32_w]
                rfl
              refine one_ (i := 13) (N := some 45) #[true, true, true, true, true, true, true, true, true, true, true, true, true, true, false, false, true, false] rfl rfl (by kernel_rfl) (by decide) (fun K hK => ?_)
              refine goes_ Try.func51 (by kernel_rfl) rfl #[.int .i64 (wrap64 (nv.tdiv 3))] (by rfl) rfl rfl (by simp only [List.map_toArray, List.map_cons, List.map_nil]; rfl) ?_
              with_reducible refine (synodallaw8_List.calls 20 (wrap64 (nv.tdiv 3)) ms _ HMS.out).mono ?_
              rintro e_ x13 ⟨v13, rfl, r_, hs_⟩
              refine ⟨_, rfl, ?_⟩
              have HSx13 := Aside0.mk hs_
              have HBx13 := Aside0.mk (below_then HBx0.out HBx0.out.size hs_ : Below wd.heap.size wd x13)
              obtain ⟨Al, cl, e1_⟩ := Kd.R_slice r_
              subst e1_
              have HOx13 := Aside0.mk (Kd.R_lower r_ HBx0.out.size : Kd.R (Kd.int .i64) 3 x13 wd.heap.size (fun _ => True) (.slice Al ms.length cl) ms)
              clear r_ hs_
              refine hK.out _ _ (pw_cell_below HSx13.out hHeld) (fun hHeld => ?_)
              clear hK K
              refine norm_ (a' := ?_) ?_ ?_
              rotate_left
              · show Act.put _ (some 45) _ = _
                simp only [Act.put, List.setIfInBounds_toArray, List.set_cons_zero, List.set_cons_succ, i64_w, i32_w]
                rfl
              refine pure_ (i := 14) (N := some 46) (v := ?_) (a' := ?_) #[true, true, true, true, true, true, true, true, true, true, true, true, true, true, true, false, true, false] rfl rfl (by kernel_rfl) (fun _ _ _ h => h) (Or.inl ⟨by rfl, ?_⟩) ?_ ?_
              rotate_left
              · intro w'
                go_simp
                with_reducible rfl
              rotate_left
              · simp only [Act.put, List.setIfInBounds_toArray, List.set_cons_zero, List.set_cons_succ, i64_w, i32_w]
                rfl
              refine one_ (i := 15) (N := some 47) #[true, true, true, true, true, true, true, true, true, true, true, true, true, true, true, true, true, false] rfl rfl (by kernel_rfl) (by decide) (fun K hK => ?_)
              have hg15 := synodallaw2_Good.calls 5 (rd [2, 4, 1] u) 0 0 ⟨#[]⟩ _ (.slice Al ms.length cl) ms 0 (rd [2, 4, 1] u) 0 0 ⟨#[]⟩ ms 0 wd x13 HBx13.out (Kd.R_tight rfl HOx13.out) (good_e (rd [2, 4, 1] u) ms (kd_cases u hu0 hu1) HM7.out)
              refine goes_ Try.func50 (by kernel_rfl) rfl #[.agg #[.int .i64 (rd [2, 4, 1] u), .int .i64 0, .int .i64 0, .string ⟨#[]⟩, .slice Al ms.length cl, .int .i64 0]] (by rfl) rfl rfl (by simp only [List.map_toArray, List.map_cons, List.map_nil]; rfl) ?_
              with_reducible refine (hg15).mono ?_
              rintro e_ x15 ⟨v15, rfl, r_, hb15_, hk15_⟩
              refine ⟨_, rfl, ?_⟩
              have HBx15 := Aside0.mk hb15_
              have HKx15 := Aside0.mk hk15_
              obtain ⟨Am, cm, e1_⟩ := Kd.R_slice r_
              subst e1_
              have HR15 := Aside0.mk r_
              clear r_ hb15_ hk15_ hg15
              refine hK.out _ _ (pw_cell_below HBx15.out hHX) (fun hHeld => ?_)
              clear hK K
              refine norm_ (a' := ?_) ?_ ?_
              rotate_left
              · show Act.put _ (some 47) _ = _
                simp only [Act.put, List.setIfInBounds_toArray, List.set_cons_zero, List.set_cons_succ, i64_w, i32_w]
                rfl
              exact norm_ (by simp only [putAll, Act.put, List.setIfInBounds_toArray, List.set_cons_zero, List.set_cons_succ]) (hCont ((Value.slice (some ⟨g0, 0, none⟩) 3 cap0), u, (Value.pointer (some ⟨g0, u.toNat, none⟩)), (rd [2, 4, 1] u), (Value.slice Al ms.length cl), (Value.agg #[.int .i64 (rd [2, 4, 1] u), .int .i64 0, .int .i64 0, .string ⟨#[]⟩, .slice Al ms.length cl, .int .i64 0]), (Value.agg #[.int .i64 (rd [2, 4, 1] u), .int .i64 0, .int .i64 0, .string ⟨#[]⟩, .slice Am ms.length cm, .int .i64 0]), g9) _ ⟨HBx15.out, kd_cases u hu0 hu1, ⟨Am, cm, rfl, Kd.R_mono HR15.out (fun _ _ => trivial)⟩, ((HKx15.out.2 _ (blk_lt (blk_below (blk_below HH9.out HSx0.out) HSx13.out)) (fun he_ => own_ne (Kd.own_of_R HOx13.out) (blk_below (blk_below HH9.out HSx0.out) HSx13.out) (by decide) he_)).trans (blk_below (blk_below HH9.out HSx0.out) HSx13.out)), HG9.out⟩)
            · skip
              refine goes_ Try.func51 (by kernel_rfl) rfl #[.int .i64 (wrap64 (nv.tdiv 3))] (by rfl) rfl rfl (by simp only [List.map_toArray, List.map_cons, List.map_nil]; rfl) ?_
              with_reducible refine (synodallaw8_List.calls 20 (wrap64 (nv.tdiv 3)) ms _ HMS.out).mono ?_
              rintro e_ x13 ⟨v13, rfl, r_, hs_⟩
              refine ⟨_, rfl, ?_⟩
              have HSx13 := Aside0.mk hs_
              have HBx13 := Aside0.mk (below_then HBx0.out HBx0.out.size hs_ : Below wd.heap.size wd x13)
              obtain ⟨Al, cl, e1_⟩ := Kd.R_slice r_
              subst e1_
              have HOx13 := Aside0.mk (Kd.R_lower r_ HBx0.out.size : Kd.R (Kd.int .i64) 3 x13 wd.heap.size (fun _ => True) (.slice Al ms.length cl) ms)
              clear r_ hs_
              refine hK.out _ _ (pw_cell_below HSx13.out hHeld) (fun hHeld => ?_)
              clear hK K
              refine norm_ (a' := ?_) ?_ ?_
              rotate_left
              · show Act.put _ (some 45) _ = _
                simp only [Act.put, List.setIfInBounds_toArray, List.set_cons_zero, List.set_cons_succ, i64_w, i32_w]
                rfl
              refine one_ (i := 7) (N := some 39) #[true, true, true, true, true, true, true, true, true, true, true, true, true, true, false, false, true, false] rfl rfl (by kernel_rfl) (by decide) (fun K hK => ?_)
              obtain ⟨ad7, e7_, hc7⟩ := Kd.at_int (Kd.C_below HR0.out HSx13.out) u hu0 (by simpa using hu1)
              injection e7_ with e7_
              subst e7_
              try rw [add_plain] at hc7
              refine value_ (w1 := ?_) (v := ?_) (by rfl) rfl ?_ ?_
              rotate_left 2
              · go_simp
                constructor
                · rfl
                · rfl
              refine hK.out _ _ (hHeld) (fun hHeld => ?_)
              clear hK K
              refine norm_ (a' := ?_) ?_ ?_
              rotate_left
              · show Act.put _ (some 39) _ = _
                simp only [Act.put, List.setIfInBounds_toArray, List.set_cons_zero, List.set_cons_succ, i64_w, i32_w]
                rfl
              refine pure_ (i := 14) (N := some 46) (v := ?_) (a' := ?_) #[true, true, true, true, true, true, true, true, true, true, true, true, true, true, true, false, true, false] rfl rfl (by kernel_rfl) (fun _ _ _ h => h) (Or.inl ⟨by rfl, ?_⟩) ?_ ?_
              rotate_left
              · intro w'
                go_simp
                with_reducible rfl
              rotate_left
              · simp only [Act.put, List.setIfInBounds_toArray, List.set_cons_zero, List.set_cons_succ, i64_w, i32_w]
                rfl
              refine one_ (i := 15) (N := some 47) #[true, true, true, true, true, true, true, true, true, true, true, true, true, true, true, true, true, false] rfl rfl (by kernel_rfl) (by decide) (fun K hK => ?_)
              have hg15 := synodallaw2_Good.calls 5 (rd [2, 4, 1] u) 0 0 ⟨#[]⟩ _ (.slice Al ms.length cl) ms 0 (rd [2, 4, 1] u) 0 0 ⟨#[]⟩ ms 0 wd x13 HBx13.out (Kd.R_tight rfl HOx13.out) (good_e (rd [2, 4, 1] u) ms (kd_cases u hu0 hu1) HM7.out)
              refine goes_ Try.func50 (by kernel_rfl) rfl #[.agg #[.int .i64 (rd [2, 4, 1] u), .int .i64 0, .int .i64 0, .string ⟨#[]⟩, .slice Al ms.length cl, .int .i64 0]] (by rfl) rfl rfl (by simp only [List.map_toArray, List.map_cons, List.map_nil]; rfl) ?_
              with_reducible refine (hg15).mono ?_
              rintro e_ x15 ⟨v15, rfl, r_, hb15_, hk15_⟩
              refine ⟨_, rfl, ?_⟩
              have HBx15 := Aside0.mk hb15_
              have HKx15 := Aside0.mk hk15_
              obtain ⟨Am, cm, e1_⟩ := Kd.R_slice r_
              subst e1_
              have HR15 := Aside0.mk r_
              clear r_ hb15_ hk15_ hg15
              refine hK.out _ _ (pw_cell_below HBx15.out hHX) (fun hHeld => ?_)
              clear hK K
              refine norm_ (a' := ?_) ?_ ?_
              rotate_left
              · show Act.put _ (some 47) _ = _
                simp only [Act.put, List.setIfInBounds_toArray, List.set_cons_zero, List.set_cons_succ, i64_w, i32_w]
                rfl
              exact norm_ (by simp only [putAll, Act.put, List.setIfInBounds_toArray, List.set_cons_zero, List.set_cons_succ]) (hCont ((Value.slice (some ⟨g0, 0, none⟩) 3 cap0), u, (Value.pointer (some ⟨g0, u.toNat, none⟩)), (rd [2, 4, 1] u), (Value.slice Al ms.length cl), (Value.agg #[.int .i64 (rd [2, 4, 1] u), .int .i64 0, .int .i64 0, .string ⟨#[]⟩, .slice Al ms.length cl, .int .i64 0]), (Value.agg #[.int .i64 (rd [2, 4, 1] u), .int .i64 0, .int .i64 0, .string ⟨#[]⟩, .slice Am ms.length cm, .int .i64 0]), g9) _ ⟨HBx15.out, kd_cases u hu0 hu1, ⟨Am, cm, rfl, Kd.R_mono HR15.out (fun _ _ => trivial)⟩, ((HKx15.out.2 _ (blk_lt (blk_below (blk_below HH9.out HSx0.out) HSx13.out)) (fun he_ => own_ne (Kd.own_of_R HOx13.out) (blk_below (blk_below HH9.out HSx0.out) HSx13.out) (by decide) he_)).trans (blk_below (blk_below HH9.out HSx0.out) HSx13.out)), HG9.out⟩)
          · skip
            refine goes_ Try.func51 (by kernel_rfl) rfl #[.int .i64 (wrap64 (nv.tdiv 3))] (by rfl) rfl rfl (by simp only [List.map_toArray, List.map_cons, List.map_nil]; rfl) ?_
            with_reducible refine (synodallaw8_List.calls 20 (wrap64 (nv.tdiv 3)) ms _ HMS.out).mono ?_
            rintro e_ x13 ⟨v13, rfl, r_, hs_⟩
            refine ⟨_, rfl, ?_⟩
            have HSx13 := Aside0.mk hs_
            have HBx13 := Aside0.mk (below_then HBx16.out HBx16.out.size hs_ : Below wd.heap.size wd x13)
            obtain ⟨Al, cl, e1_⟩ := Kd.R_slice r_
            subst e1_
            have HOx13 := Aside0.mk (Kd.R_lower r_ HBx16.out.size : Kd.R (Kd.int .i64) 3 x13 wd.heap.size (fun _ => True) (.slice Al ms.length cl) ms)
            clear r_ hs_
            refine hK.out _ _ (pw_cell_below HSx13.out hHeld) (fun hHeld => ?_)
            clear hK K
            refine norm_ (a' := ?_) ?_ ?_
            rotate_left
            · show Act.put _ (some 45) _ = _
              simp only [Act.put, List.setIfInBounds_toArray, List.set_cons_zero, List.set_cons_succ, i64_w, i32_w]
              rfl
            refine one_ (i := 0) (N := some 32) #[true, true, true, true, true, true, false, false, true, true, true, true, true, true, false, false, true, false] rfl rfl (by kernel_rfl) (by decide) (fun K hK => ?_)
            refine Kd.R_lit_step (Kd.int .i64) (w0 := x13) x13.heap.size 3 (by rfl) (N := 32) rfl (xs := [2, 4, 1]) (inner := [.int .i64 2, .int .i64 4, .int .i64 1]) (ok := fun _ => True) (okp := fun _ => False) ?hr (Reps.cons_ (show (Kd.int .i64).M _ _ _ (2 : Int) [.int .i64 2] from rfl) rfl (Reps.cons_ (show (Kd.int .i64).M _ _ _ (4 : Int) [.int .i64 4] from rfl) rfl (Reps.cons_ (show (Kd.int .i64).M _ _ _ (1 : Int) [.int .i64 1] from rfl) rfl (Reps.none _ _)))) (fun _ h => h.elim) trivial (Below.refl _ _) (Nat.le_refl _) (by simp) ?_
            (case hr => first | (go_simp; done) | (go_simp; rfl))
            intro v0 x0 r_ hs_ g_ n_
            have HSx0 := Aside0.mk hs_
            have HBx0 := Aside0.mk (below_then HBx13.out HBx13.out.size hs_ : Below wd.heap.size wd x0)
            obtain ⟨g0, cap0, e0_, _⟩ := Kd.R_form r_ (by simp)
            have e1_ : v0 = .slice (some ⟨g0, 0, none⟩) 3 cap0 := e0_
            subst e1_
            have HR0 := Aside0.mk (Kd.R_reads' r_).2.2
            clear r_ hs_ g_ n_ e0_
            refine hK.out _ _ (pw_cell_below HSx0.out hHeld) (fun hHeld => ?_)
            clear hK K
            refine norm_ (a' := ?_) ?_ ?_
            rotate_left
            · show Act.put _ (some 32) _ = _
              simp only [Act.put, List.setIfInBounds_toArray, List.set_cons_zero, List.set_cons_succ, i64_w, i32_w]
              rfl
            refine pure_ (i := 6) (N := some 38) (v := ?_) (a' := ?_) #[true, true, true, true, true, true, true, false, true, true, true, true, true, true, false, false, true, false] rfl rfl (by kernel_rfl) (fun _ _ _ h => h) (Or.inl ⟨by rfl, ?_⟩) ?_ ?_
            rotate_left
            · intro w'
              go_simp
              with_reducible rfl
            rotate_left
            · simp only [Act.put, List.setIfInBounds_toArray, List.set_cons_zero, List.set_cons_succ, i64_w, i32_w]
              rfl
            refine one_ (i := 7) (N := some 39) #[true, true, true, true, true, true, true, true, true, true, true, true, true, true, false, false, true, false] rfl rfl (by kernel_rfl) (by decide) (fun K hK => ?_)
            obtain ⟨ad7, e7_, hc7⟩ := Kd.at_int HR0.out u hu0 (by simpa using hu1)
            injection e7_ with e7_
            subst e7_
            try rw [add_plain] at hc7
            refine value_ (w1 := ?_) (v := ?_) (by rfl) rfl ?_ ?_
            rotate_left 2
            · go_simp
              constructor
              · rfl
              · rfl
            refine hK.out _ _ (hHeld) (fun hHeld => ?_)
            clear hK K
            refine norm_ (a' := ?_) ?_ ?_
            rotate_left
            · show Act.put _ (some 39) _ = _
              simp only [Act.put, List.setIfInBounds_toArray, List.set_cons_zero, List.set_cons_succ, i64_w, i32_w]
              rfl
            refine pure_ (i := 14) (N := some 46) (v := ?_) (a' := ?_) #[true, true, true, true, true, true, true, true, true, true, true, true, true, true, true, false, true, false] rfl rfl (by kernel_rfl) (fun _ _ _ h => h) (Or.inl ⟨by rfl, ?_⟩) ?_ ?_
            rotate_left
            · intro w'
              go_simp
              with_reducible rfl
            rotate_left
            · simp only [Act.put, List.setIfInBounds_toArray, List.set_cons_zero, List.set_cons_succ, i64_w, i32_w]
              rfl
            refine one_ (i := 15) (N := some 47) #[true, true, true, true, true, true, true, true, true, true, true, true, true, true, true, true, true, false] rfl rfl (by kernel_rfl) (by decide) (fun K hK => ?_)
            have hg15 := synodallaw2_Good.calls 5 (rd [2, 4, 1] u) 0 0 ⟨#[]⟩ _ (.slice Al ms.length cl) ms 0 (rd [2, 4, 1] u) 0 0 ⟨#[]⟩ ms 0 wd x0 HBx0.out (Kd.R_tight rfl (Kd.R_below HOx13.out HSx0.out)) (good_e (rd [2, 4, 1] u) ms (kd_cases u hu0 hu1) HM7.out)
            refine goes_ Try.func50 (by kernel_rfl) rfl #[.agg #[.int .i64 (rd [2, 4, 1] u), .int .i64 0, .int .i64 0, .string ⟨#[]⟩, .slice Al ms.length cl, .int .i64 0]] (by rfl) rfl rfl (by simp only [List.map_toArray, List.map_cons, List.map_nil]; rfl) ?_
            with_reducible refine (hg15).mono ?_
            rintro e_ x15 ⟨v15, rfl, r_, hb15_, hk15_⟩
            refine ⟨_, rfl, ?_⟩
            have HBx15 := Aside0.mk hb15_
            have HKx15 := Aside0.mk hk15_
            obtain ⟨Am, cm, e1_⟩ := Kd.R_slice r_
            subst e1_
            have HR15 := Aside0.mk r_
            clear r_ hb15_ hk15_ hg15
            refine hK.out _ _ (pw_cell_below HBx15.out hHX) (fun hHeld => ?_)
            clear hK K
            refine norm_ (a' := ?_) ?_ ?_
            rotate_left
            · show Act.put _ (some 47) _ = _
              simp only [Act.put, List.setIfInBounds_toArray, List.set_cons_zero, List.set_cons_succ, i64_w, i32_w]
              rfl
            exact norm_ (by simp only [putAll, Act.put, List.setIfInBounds_toArray, List.set_cons_zero, List.set_cons_succ]) (hCont ((Value.slice (some ⟨g0, 0, none⟩) 3 cap0), u, (Value.pointer (some ⟨g0, u.toNat, none⟩)), (rd [2, 4, 1] u), (Value.slice Al ms.length cl), (Value.agg #[.int .i64 (rd [2, 4, 1] u), .int .i64 0, .int .i64 0, .string ⟨#[]⟩, .slice Al ms.length cl, .int .i64 0]), (Value.agg #[.int .i64 (rd [2, 4, 1] u), .int .i64 0, .int .i64 0, .string ⟨#[]⟩, .slice Am ms.length cm, .int .i64 0]), g9) _ ⟨HBx15.out, kd_cases u hu0 hu1, ⟨Am, cm, rfl, Kd.R_mono HR15.out (fun _ _ => trivial)⟩, ((HKx15.out.2 _ (blk_lt (blk_below (blk_below HH9.out HSx13.out) HSx0.out)) (fun he_ => own_ne (Kd.own_of_R (Kd.R_below HOx13.out HSx0.out)) (blk_below (blk_below HH9.out HSx13.out) HSx0.out) (by decide) he_)).trans (blk_below (blk_below HH9.out HSx13.out) HSx0.out)), HG9.out⟩)
      · skip
        refine value_ (w1 := ?_) (v := ?_) (by rfl) rfl ?_ ?_
        rotate_left 2
        · go_simp
          constructor
          · rfl
          · rfl
        generalize hx_ : World.alloc wd _ = x16
        have hs_ : Below wd.heap.size wd x16 := by rw [← hx_]; exact below_alloc (Below.refl _ _) _
        have hh_ : x16.heap[wd.heap.size]? = some (.cells #[.int .i64 0, .int .i64 0, .int .i64 0, .string ⟨#[]⟩, .slice none 0 0, .int .i64 0] 77 (0, 0)) := by rw [← hx_]; exact heap_alloc_new _ _
        obtain ⟨g9, hg9_⟩ : ∃ q, wd.heap.size = q := ⟨_, rfl⟩
        rw [hg9_] at hh_
        try rw [hg9_]
        have HG9 := Aside0.mk (show wd.heap.size ≤ g9 by rw [← hg9_]; exact (Nat.le_refl _))
        have HSx16 := Aside0.mk hs_
        have HBx16 := Aside0.mk (below_then (Below.refl _ _) (Nat.le_refl _) hs_ : Below wd.heap.size wd x16)
        have HH9 := Aside0.mk hh_
        clear hx_ hs_ hh_ hg9_
        refine hK.out _ _ (pw_cell_below HSx16.out hHeld) (fun hHeld => ?_)
        clear hK K
        refine norm_ (a' := ?_) ?_ ?_
        rotate_left
        · show Act.put _ (some 9) _ = _
          simp only [Act.put, List.setIfInBounds_toArray, List.set_cons_zero, List.set_cons_succ, i64_w, i32_w]
          rfl
        refine two_ (i := 0) (j := 5) (Ni := some 32) (Nj := some 37) #[true, true, true, true, true, false, false, false, true, true, true, true, true, false, false, false, true, false] #[false, true, true, true, true, true, false, false, true, true, true, true, true, false, false, false, true, false] rfl rfl rfl rfl (by kernel_rfl) (by decide) (by decide) (fun K hK => ?_) (fun K hK => ?_)
        · skip
          refine Kd.R_lit_step (Kd.int .i64) (w0 := x16) x16.heap.size 3 (by rfl) (N := 32) rfl (xs := [2, 4, 1]) (inner := [.int .i64 2, .int .i64 4, .int .i64 1]) (ok := fun _ => True) (okp := fun _ => False) ?hr (Reps.cons_ (show (Kd.int .i64).M _ _ _ (2 : Int) [.int .i64 2] from rfl) rfl (Reps.cons_ (show (Kd.int .i64).M _ _ _ (4 : Int) [.int .i64 4] from rfl) rfl (Reps.cons_ (show (Kd.int .i64).M _ _ _ (1 : Int) [.int .i64 1] from rfl) rfl (Reps.none _ _)))) (fun _ h => h.elim) trivial (Below.refl _ _) (Nat.le_refl _) (by simp) ?_
          (case hr => first | (go_simp; done) | (go_simp; rfl))
          intro v0 x0 r_ hs_ g_ n_
          have HSx0 := Aside0.mk hs_
          have HBx0 := Aside0.mk (below_then HBx16.out HBx16.out.size hs_ : Below wd.heap.size wd x0)
          obtain ⟨g0, cap0, e0_, _⟩ := Kd.R_form r_ (by simp)
          have e1_ : v0 = .slice (some ⟨g0, 0, none⟩) 3 cap0 := e0_
          subst e1_
          have HR0 := Aside0.mk (Kd.R_reads' r_).2.2
          clear r_ hs_ g_ n_ e0_
          refine hK.out _ _ (pw_cell_below HSx0.out hHeld) (fun hHeld => ?_)
          clear hK K
          refine norm_ (a' := ?_) ?_ ?_
          rotate_left
          · show Act.put _ (some 32) _ = _
            simp only [Act.put, List.setIfInBounds_toArray, List.set_cons_zero, List.set_cons_succ, i64_w, i32_w]
            rfl
          refine one_ (i := 5) (N := some 37) #[true, true, true, true, true, true, false, false, true, true, true, true, true, false, false, false, true, false] rfl rfl (by kernel_rfl) (by decide) (fun K hK => ?_)
          refine goes_ Try.func34 (by kernel_rfl) rfl #[.int .i64 nv, .int .i64 3] (by rfl) rfl rfl (by simp only [List.map_toArray, List.map_cons, List.map_nil]; rfl) ?_
          with_reducible refine (within_below nv 3 _ (by omega) (by omega)).mono ?_
          rintro e_ x5 ⟨u, rfl, hs_, hu0, hu1⟩
          refine ⟨_, rfl, ?_⟩
          have HSx5 := Aside0.mk hs_
          have HBx5 := Aside0.mk (below_then HBx0.out HBx0.out.size hs_ : Below wd.heap.size wd x5)
          have hqu0 := eq_true hu0
          have hqu1 := eq_true hu1
          clear hs_
          refine hK.out _ _ (pw_cell_below HSx5.out hHeld) (fun hHeld => ?_)
          clear hK K
          refine norm_ (a' := ?_) ?_ ?_
          rotate_left
          · show Act.put _ (some 37) _ = _
            simp only [Act.put, List.setIfInBounds_toArray, List.set_cons_zero, List.set_cons_succ, i64_w, i32_w]
            rfl
          refine pure_ (i := 6) (N := some 38) (v := ?_) (a' := ?_) #[true, true, true, true, true, true, true, false, true, true, true, true, true, false, false, false, true, false] rfl rfl (by kernel_rfl) (fun _ _ _ h => h) (Or.inl ⟨by rfl, ?_⟩) ?_ ?_
          rotate_left
          · intro w'
            go_simp
            with_reducible rfl
          rotate_left
          · simp only [Act.put, List.setIfInBounds_toArray, List.set_cons_zero, List.set_cons_succ, i64_w, i32_w]
            rfl
          refine two_ (i := 7) (j := 13) (Ni := some 39) (Nj := some 45) #[true, true, true, true, true, true, true, true, true, true, true, true, true, false, false, false, true, false] #[true, true, true, true, true, true, true, false, true, true, true, true, true, true, false, false, true, false] rfl rfl rfl rfl (by kernel_rfl) (by decide) (by decide) (fun K hK => ?_) (fun K hK => ?_)
          · skip
            obtain ⟨ad7, e7_, hc7⟩ := Kd.at_int (Kd.C_below HR0.out HSx5.out) u hu0 (by simpa using hu1)
            injection e7_ with e7_
            subst e7_
            try rw [add_plain] at hc7
            refine value_ (w1 := ?_) (v := ?_) (by rfl) rfl ?_ ?_
            rotate_left 2
            · go_simp
              constructor
              · rfl
              · rfl
            refine hK.out _ _ (hHeld) (fun hHeld => ?_)
            clear hK K
            refine norm_ (a' := ?_) ?_ ?_
            rotate_left
            · show Act.put _ (some 39) _ = _
              simp only [Act.put, List.setIfInBounds_toArray, List.set_cons_zero, List.set_cons_succ, i64_w, i32_w]
              rfl
            refine one_ (i := 13) (N := some 45) #[true, true, true, true, true, true, true, true, true, true, true, true, true, true, false, false, true, false] rfl rfl (by kernel_rfl) (by decide) (fun K hK => ?_)
            refine goes_ Try.func51 (by kernel_rfl) rfl #[.int .i64 (wrap64 (nv.tdiv 3))] (by rfl) rfl rfl (by simp only [List.map_toArray, List.map_cons, List.map_nil]; rfl) ?_
            with_reducible refine (synodallaw8_List.calls 20 (wrap64 (nv.tdiv 3)) ms _ HMS.out).mono ?_
            rintro e_ x13 ⟨v13, rfl, r_, hs_⟩
            refine ⟨_, rfl, ?_⟩
            have HSx13 := Aside0.mk hs_
            have HBx13 := Aside0.mk (below_then HBx5.out HBx5.out.size hs_ : Below wd.heap.size wd x13)
            obtain ⟨Al, cl, e1_⟩ := Kd.R_slice r_
            subst e1_
            have HOx13 := Aside0.mk (Kd.R_lower r_ HBx5.out.size : Kd.R (Kd.int .i64) 3 x13 wd.heap.size (fun _ => True) (.slice Al ms.length cl) ms)
            clear r_ hs_
            refine hK.out _ _ (pw_cell_below HSx13.out hHeld) (fun hHeld => ?_)
            clear hK K
            refine norm_ (a' := ?_) ?_ ?_
            rotate_left
            · show Act.put _ (some 45) _ = _
              simp only [Act.put, List.setIfInBounds_toArray, List.set_cons_zero, List.set_cons_succ, i64_w, i32_w]
              rfl
            refine pure_ (i := 14) (N := some 46) (v := ?_) (a' := ?_) #[true, true, true, true, true, true, true, true, true, true, true, true, true, true, true, false, true, false] rfl rfl (by kernel_rfl) (fun _ _ _ h => h) (Or.inl ⟨by rfl, ?_⟩) ?_ ?_
            rotate_left
            · intro w'
              go_simp
              with_reducible rfl
            rotate_left
            · simp only [Act.put, List.setIfInBounds_toArray, List.set_cons_zero, List.set_cons_succ, i64_w, i32_w]
              rfl
            refine one_ (i := 15) (N := some 47) #[true, true, true, true, true, true, true, true, true, true, true, true, true, true, true, true, true, false] rfl rfl (by kernel_rfl) (by decide) (fun K hK => ?_)
            have hg15 := synodallaw2_Good.calls 5 (rd [2, 4, 1] u) 0 0 ⟨#[]⟩ _ (.slice Al ms.length cl) ms 0 (rd [2, 4, 1] u) 0 0 ⟨#[]⟩ ms 0 wd x13 HBx13.out (Kd.R_tight rfl HOx13.out) (good_e (rd [2, 4, 1] u) ms (kd_cases u hu0 hu1) HM7.out)
            refine goes_ Try.func50 (by kernel_rfl) rfl #[.agg #[.int .i64 (rd [2, 4, 1] u), .int .i64 0, .int .i64 0, .string ⟨#[]⟩, .slice Al ms.length cl, .int .i64 0]] (by rfl) rfl rfl (by simp only [List.map_toArray, List.map_cons, List.map_nil]; rfl) ?_
            with_reducible refine (hg15).mono ?_
            rintro e_ x15 ⟨v15, rfl, r_, hb15_, hk15_⟩
            refine ⟨_, rfl, ?_⟩
            have HBx15 := Aside0.mk hb15_
            have HKx15 := Aside0.mk hk15_
            obtain ⟨Am, cm, e1_⟩ := Kd.R_slice r_
            subst e1_
            have HR15 := Aside0.mk r_
            clear r_ hb15_ hk15_ hg15
            refine hK.out _ _ (pw_cell_below HBx15.out hHX) (fun hHeld => ?_)
            clear hK K
            refine norm_ (a' := ?_) ?_ ?_
            rotate_left
            · show Act.put _ (some 47) _ = _
              simp only [Act.put, List.setIfInBounds_toArray, List.set_cons_zero, List.set_cons_succ, i64_w, i32_w]
              rfl
            exact norm_ (by simp only [putAll, Act.put, List.setIfInBounds_toArray, List.set_cons_zero, List.set_cons_succ]) (hCont ((Value.slice (some ⟨g0, 0, none⟩) 3 cap0), u, (Value.pointer (some ⟨g0, u.toNat, none⟩)), (rd [2, 4, 1] u), (Value.slice Al ms.length cl), (Value.agg #[.int .i64 (rd [2, 4, 1] u), .int .i64 0, .int .i64 0, .string ⟨#[]⟩, .slice Al ms.length cl, .int .i64 0]), (Value.agg #[.int .i64 (rd [2, 4, 1] u), .int .i64 0, .int .i64 0, .string ⟨#[]⟩, .slice Am ms.length cm, .int .i64 0]), g9) _ ⟨HBx15.out, kd_cases u hu0 hu1, ⟨Am, cm, rfl, Kd.R_mono HR15.out (fun _ _ => trivial)⟩, ((HKx15.out.2 _ (blk_lt (blk_below (blk_below (blk_below HH9.out HSx0.out) HSx5.out) HSx13.out)) (fun he_ => own_ne (Kd.own_of_R HOx13.out) (blk_below (blk_below (blk_below HH9.out HSx0.out) HSx5.out) HSx13.out) (by decide) he_)).trans (blk_below (blk_below (blk_below HH9.out HSx0.out) HSx5.out) HSx13.out)), HG9.out⟩)
          · skip
            refine goes_ Try.func51 (by kernel_rfl) rfl #[.int .i64 (wrap64 (nv.tdiv 3))] (by rfl) rfl rfl (by simp only [List.map_toArray, List.map_cons, List.map_nil]; rfl) ?_
            with_reducible refine (synodallaw8_List.calls 20 (wrap64 (nv.tdiv 3)) ms _ HMS.out).mono ?_
            rintro e_ x13 ⟨v13, rfl, r_, hs_⟩
            refine ⟨_, rfl, ?_⟩
            have HSx13 := Aside0.mk hs_
            have HBx13 := Aside0.mk (below_then HBx5.out HBx5.out.size hs_ : Below wd.heap.size wd x13)
            obtain ⟨Al, cl, e1_⟩ := Kd.R_slice r_
            subst e1_
            have HOx13 := Aside0.mk (Kd.R_lower r_ HBx5.out.size : Kd.R (Kd.int .i64) 3 x13 wd.heap.size (fun _ => True) (.slice Al ms.length cl) ms)
            clear r_ hs_
            refine hK.out _ _ (pw_cell_below HSx13.out hHeld) (fun hHeld => ?_)
            clear hK K
            refine norm_ (a' := ?_) ?_ ?_
            rotate_left
            · show Act.put _ (some 45) _ = _
              simp only [Act.put, List.setIfInBounds_toArray, List.set_cons_zero, List.set_cons_succ, i64_w, i32_w]
              rfl
            refine one_ (i := 7) (N := some 39) #[true, true, true, true, true, true, true, true, true, true, true, true, true, true, false, false, true, false] rfl rfl (by kernel_rfl) (by decide) (fun K hK => ?_)
            obtain ⟨ad7, e7_, hc7⟩ := Kd.at_int (Kd.C_below (Kd.C_below HR0.out HSx5.out) HSx13.out) u hu0 (by simpa using hu1)
            injection e7_ with e7_
            subst e7_
            try rw [add_plain] at hc7
            refine value_ (w1 := ?_) (v := ?_) (by rfl) rfl ?_ ?_
            rotate_left 2
            · go_simp
              constructor
              · rfl
              · rfl
            refine hK.out _ _ (hHeld) (fun hHeld => ?_)
            clear hK K
            refine norm_ (a' := ?_) ?_ ?_
            rotate_left
            · show Act.put _ (some 39) _ = _
              simp only [Act.put, List.setIfInBounds_toArray, List.set_cons_zero, List.set_cons_succ, i64_w, i32_w]
              rfl
            refine pure_ (i := 14) (N := some 46) (v := ?_) (a' := ?_) #[true, true, true, true, true, true, true, true, true, true, true, true, true, true, true, false, true, false] rfl rfl (by kernel_rfl) (fun _ _ _ h => h) (Or.inl ⟨by rfl, ?_⟩) ?_ ?_
            rotate_left
            · intro w'
              go_simp
              with_reducible rfl
            rotate_left
            · simp only [Act.put, List.setIfInBounds_toArray, List.set_cons_zero, List.set_cons_succ, i64_w, i32_w]
              rfl
            refine one_ (i := 15) (N := some 47) #[true, true, true, true, true, true, true, true, true, true, true, true, true, true, true, true, true, false] rfl rfl (by kernel_rfl) (by decide) (fun K hK => ?_)
            have hg15 := synodallaw2_Good.calls 5 (rd [2, 4, 1] u) 0 0 ⟨#[]⟩ _ (.slice Al ms.length cl) ms 0 (rd [2, 4, 1] u) 0 0 ⟨#[]⟩ ms 0 wd x13 HBx13.out (Kd.R_tight rfl HOx13.out) (good_e (rd [2, 4, 1] u) ms (kd_cases u hu0 hu1) HM7.out)
            refine goes_ Try.func50 (by kernel_rfl) rfl #[.agg #[.int .i64 (rd [2, 4, 1] u), .int .i64 0, .int .i64 0, .string ⟨#[]⟩, .slice Al ms.length cl, .int .i64 0]] (by rfl) rfl rfl (by simp only [List.map_toArray, List.map_cons, List.map_nil]; rfl) ?_
            with_reducible refine (hg15).mono ?_
            rintro e_ x15 ⟨v15, rfl, r_, hb15_, hk15_⟩
            refine ⟨_, rfl, ?_⟩
            have HBx15 := Aside0.mk hb15_
            have HKx15 := Aside0.mk hk15_
            obtain ⟨Am, cm, e1_⟩ := Kd.R_slice r_
            subst e1_
            have HR15 := Aside0.mk r_
            clear r_ hb15_ hk15_ hg15
            refine hK.out _ _ (pw_cell_below HBx15.out hHX) (fun hHeld => ?_)
            clear hK K
            refine norm_ (a' := ?_) ?_ ?_
            rotate_left
            · show Act.put _ (some 47) _ = _
              simp only [Act.put, List.setIfInBounds_toArray, List.set_cons_zero, List.set_cons_succ, i64_w, i32_w]
              rfl
            exact norm_ (by simp only [putAll, Act.put, List.setIfInBounds_toArray, List.set_cons_zero, List.set_cons_succ]) (hCont ((Value.slice (some ⟨g0, 0, none⟩) 3 cap0), u, (Value.pointer (some ⟨g0, u.toNat, none⟩)), (rd [2, 4, 1] u), (Value.slice Al ms.length cl), (Value.agg #[.int .i64 (rd [2, 4, 1] u), .int .i64 0, .int .i64 0, .string ⟨#[]⟩, .slice Al ms.length cl, .int .i64 0]), (Value.agg #[.int .i64 (rd [2, 4, 1] u), .int .i64 0, .int .i64 0, .string ⟨#[]⟩, .slice Am ms.length cm, .int .i64 0]), g9) _ ⟨HBx15.out, kd_cases u hu0 hu1, ⟨Am, cm, rfl, Kd.R_mono HR15.out (fun _ _ => trivial)⟩, ((HKx15.out.2 _ (blk_lt (blk_below (blk_below (blk_below HH9.out HSx0.out) HSx5.out) HSx13.out)) (fun he_ => own_ne (Kd.own_of_R HOx13.out) (blk_below (blk_below (blk_below HH9.out HSx0.out) HSx5.out) HSx13.out) (by decide) he_)).trans (blk_below (blk_below (blk_below HH9.out HSx0.out) HSx5.out) HSx13.out)), HG9.out⟩)
        · skip
          refine goes_ Try.func34 (by kernel_rfl) rfl #[.int .i64 nv, .int .i64 3] (by rfl) rfl rfl (by simp only [List.map_toArray, List.map_cons, List.map_nil]; rfl) ?_
          with_reducible refine (within_below nv 3 _ (by omega) (by omega)).mono ?_
          rintro e_ x5 ⟨u, rfl, hs_, hu0, hu1⟩
          refine ⟨_, rfl, ?_⟩
          have HSx5 := Aside0.mk hs_
          have HBx5 := Aside0.mk (below_then HBx16.out HBx16.out.size hs_ : Below wd.heap.size wd x5)
          have hqu0 := eq_true hu0
          have hqu1 := eq_true hu1
          clear hs_
          refine hK.out _ _ (pw_cell_below HSx5.out hHeld) (fun hHeld => ?_)
          clear hK K
          refine norm_ (a' := ?_) ?_ ?_
          rotate_left
          · show Act.put _ (some 37) _ = _
            simp only [Act.put, List.setIfInBounds_toArray, List.set_cons_zero, List.set_cons_succ, i64_w, i32_w]
            rfl
          refine two_ (i := 0) (j := 13) (Ni := some 32) (Nj := some 45) #[true, true, true, true, true, true, false, false, true, true, true, true, true, false, false, false, true, false] #[false, true, true, true, true, true, false, false, true, true, true, true, true, true, false, false, true, false] rfl rfl rfl rfl (by kernel_rfl) (by decide) (by decide) (fun K hK => ?_) (fun K hK => ?_)
          · skip
            refine Kd.R_lit_step (Kd.int .i64) (w0 := x5) x5.heap.size 3 (by rfl) (N := 32) rfl (xs := [2, 4, 1]) (inner := [.int .i64 2, .int .i64 4, .int .i64 1]) (ok := fun _ => True) (okp := fun _ => False) ?hr (Reps.cons_ (show (Kd.int .i64).M _ _ _ (2 : Int) [.int .i64 2] from rfl) rfl (Reps.cons_ (show (Kd.int .i64).M _ _ _ (4 : Int) [.int .i64 4] from rfl) rfl (Reps.cons_ (show (Kd.int .i64).M _ _ _ (1 : Int) [.int .i64 1] from rfl) rfl (Reps.none _ _)))) (fun _ h => h.elim) trivial (Below.refl _ _) (Nat.le_refl _) (by simp) ?_
            (case hr => first | (go_simp; done) | (go_simp; rfl))
            intro v0 x0 r_ hs_ g_ n_
            have HSx0 := Aside0.mk hs_
            have HBx0 := Aside0.mk (below_then HBx5.out HBx5.out.size hs_ : Below wd.heap.size wd x0)
            obtain ⟨g0, cap0, e0_, _⟩ := Kd.R_form r_ (by simp)
            have e1_ : v0 = .slice (some ⟨g0, 0, none⟩) 3 cap0 := e0_
            subst e1_
            have HR0 := Aside0.mk (Kd.R_reads' r_).2.2
            clear r_ hs_ g_ n_ e0_
            refine hK.out _ _ (pw_cell_below HSx0.out hHeld) (fun hHeld => ?_)
            clear hK K
            refine norm_ (a' := ?_) ?_ ?_
            rotate_left
            · show Act.put _ (some 32) _ = _
              simp only [Act.put, List.setIfInBounds_toArray, List.set_cons_zero, List.set_cons_succ, i64_w, i32_w]
              rfl
            refine pure_ (i := 6) (N := some 38) (v := ?_) (a' := ?_) #[true, true, true, true, true, true, true, false, true, true, true, true, true, false, false, false, true, false] rfl rfl (by kernel_rfl) (fun _ _ _ h => h) (Or.inl ⟨by rfl, ?_⟩) ?_ ?_
            rotate_left
            · intro w'
              go_simp
              with_reducible rfl
            rotate_left
            · simp only [Act.put, List.setIfInBounds_toArray, List.set_cons_zero, List.set_cons_succ, i64_w, i32_w]
              rfl
            refine two_ (i := 7) (j := 13) (Ni := some 39) (Nj := some 45) #[true, true, true, true, true, true, true, true, true, true, true, true, true, false, false, false, true, false] #[true, true, true, true, true, true, true, false, true, true, true, true, true, true, false, false, true, false] rfl rfl rfl rfl (by kernel_rfl) (by decide) (by decide) (fun K hK => ?_) (fun K hK => ?_)
            · skip
              obtain ⟨ad7, e7_, hc7⟩ := Kd.at_int HR0.out u hu0 (by simpa using hu1)
              injection e7_ with e7_
              subst e7_
              try rw [add_plain] at hc7
              refine value_ (w1 := ?_) (v := ?_) (by rfl) rfl ?_ ?_
              rotate_left 2
              · go_simp
                constructor
                · rfl
                · rfl
              refine hK.out _ _ (hHeld) (fun hHeld => ?_)
              clear hK K
              refine norm_ (a' := ?_) ?_ ?_
              rotate_left
              · show Act.put _ (some 39) _ = _
                simp only [Act.put, List.setIfInBounds_toArray, List.set_cons_zero, List.set_cons_succ, i64_w, i32_w]
                rfl
              refine one_ (i := 13) (N := some 45) #[true, true, true, true, true, true, true, true, true, true, true, true, true, true, false, false, true, false] rfl rfl (by kernel_rfl) (by decide) (fun K hK => ?_)
              refine goes_ Try.func51 (by kernel_rfl) rfl #[.int .i64 (wrap64 (nv.tdiv 3))] (by rfl) rfl rfl (by simp only [List.map_toArray, List.map_cons, List.map_nil]; rfl) ?_
              with_reducible refine (synodallaw8_List.calls 20 (wrap64 (nv.tdiv 3)) ms _ HMS.out).mono ?_
              rintro e_ x13 ⟨v13, rfl, r_, hs_⟩
              refine ⟨_, rfl, ?_⟩
              have HSx13 := Aside0.mk hs_
              have HBx13 := Aside0.mk (below_then HBx0.out HBx0.out.size hs_ : Below wd.heap.size wd x13)
              obtain ⟨Al, cl, e1_⟩ := Kd.R_slice r_
              subst e1_
              have HOx13 := Aside0.mk (Kd.R_lower r_ HBx0.out.size : Kd.R (Kd.int .i64) 3 x13 wd.heap.size (fun _ => True) (.slice Al ms.length cl) ms)
              clear r_ hs_
              refine hK.out _ _ (pw_cell_below HSx13.out hHeld) (fun hHeld => ?_)
              clear hK K
              refine norm_ (a' := ?_) ?_ ?_
              rotate_left
              · show Act.put _ (some 45) _ = _
                simp only [Act.put, List.setIfInBounds_toArray, List.set_cons_zero, List.set_cons_succ, i64_w, i32_w]
                rfl
              refine pure_ (i := 14) (N := some 46) (v := ?_) (a' := ?_) #[true, true, true, true, true, true, true, true, true, true, true, true, true, true, true, false, true, false] rfl rfl (by kernel_rfl) (fun _ _ _ h => h) (Or.inl ⟨by rfl, ?_⟩) ?_ ?_
              rotate_left
              · intro w'
                go_simp
                with_reducible rfl
              rotate_left
              · simp only [Act.put, List.setIfInBounds_toArray, List.set_cons_zero, List.set_cons_succ, i64_w, i32_w]
                rfl
              refine one_ (i := 15) (N := some 47) #[true, true, true, true, true, true, true, true, true, true, true, true, true, true, true, true, true, false] rfl rfl (by kernel_rfl) (by decide) (fun K hK => ?_)
              have hg15 := synodallaw2_Good.calls 5 (rd [2, 4, 1] u) 0 0 ⟨#[]⟩ _ (.slice Al ms.length cl) ms 0 (rd [2, 4, 1] u) 0 0 ⟨#[]⟩ ms 0 wd x13 HBx13.out (Kd.R_tight rfl HOx13.out) (good_e (rd [2, 4, 1] u) ms (kd_cases u hu0 hu1) HM7.out)
              refine goes_ Try.func50 (by kernel_rfl) rfl #[.agg #[.int .i64 (rd [2, 4, 1] u), .int .i64 0, .int .i64 0, .string ⟨#[]⟩, .slice Al ms.length cl, .int .i64 0]] (by rfl) rfl rfl (by simp only [List.map_toArray, List.map_cons, List.map_nil]; rfl) ?_
              with_reducible refine (hg15).mono ?_
              rintro e_ x15 ⟨v15, rfl, r_, hb15_, hk15_⟩
              refine ⟨_, rfl, ?_⟩
              have HBx15 := Aside0.mk hb15_
              have HKx15 := Aside0.mk hk15_
              obtain ⟨Am, cm, e1_⟩ := Kd.R_slice r_
              subst e1_
              have HR15 := Aside0.mk r_
              clear r_ hb15_ hk15_ hg15
              refine hK.out _ _ (pw_cell_below HBx15.out hHX) (fun hHeld => ?_)
              clear hK K
              refine norm_ (a' := ?_) ?_ ?_
              rotate_left
              · show Act.put _ (some 47) _ = _
                simp only [Act.put, List.setIfInBounds_toArray, List.set_cons_zero, List.set_cons_succ, i64_w, i32_w]
                rfl
              exact norm_ (by simp only [putAll, Act.put, List.setIfInBounds_toArray, List.set_cons_zero, List.set_cons_succ]) (hCont ((Value.slice (some ⟨g0, 0, none⟩) 3 cap0), u, (Value.pointer (some ⟨g0, u.toNat, none⟩)), (rd [2, 4, 1] u), (Value.slice Al ms.length cl), (Value.agg #[.int .i64 (rd [2, 4, 1] u), .int .i64 0, .int .i64 0, .string ⟨#[]⟩, .slice Al ms.length cl, .int .i64 0]), (Value.agg #[.int .i64 (rd [2, 4, 1] u), .int .i64 0, .int .i64 0, .string ⟨#[]⟩, .slice Am ms.length cm, .int .i64 0]), g9) _ ⟨HBx15.out, kd_cases u hu0 hu1, ⟨Am, cm, rfl, Kd.R_mono HR15.out (fun _ _ => trivial)⟩, ((HKx15.out.2 _ (blk_lt (blk_below (blk_below (blk_below HH9.out HSx5.out) HSx0.out) HSx13.out)) (fun he_ => own_ne (Kd.own_of_R HOx13.out) (blk_below (blk_below (blk_below HH9.out HSx5.out) HSx0.out) HSx13.out) (by decide) he_)).trans (blk_below (blk_below (blk_below HH9.out HSx5.out) HSx0.out) HSx13.out)), HG9.out⟩)
            · skip
              refine goes_ Try.func51 (by kernel_rfl) rfl #[.int .i64 (wrap64 (nv.tdiv 3))] (by rfl) rfl rfl (by simp only [List.map_toArray, List.map_cons, List.map_nil]; rfl) ?_
              with_reducible refine (synodallaw8_List.calls 20 (wrap64 (nv.tdiv 3)) ms _ HMS.out).mono ?_
              rintro e_ x13 ⟨v13, rfl, r_, hs_⟩
              refine ⟨_, rfl, ?_⟩
              have HSx13 := Aside0.mk hs_
              have HBx13 := Aside0.mk (below_then HBx0.out HBx0.out.size hs_ : Below wd.heap.size wd x13)
              obtain ⟨Al, cl, e1_⟩ := Kd.R_slice r_
              subst e1_
              have HOx13 := Aside0.mk (Kd.R_lower r_ HBx0.out.size : Kd.R (Kd.int .i64) 3 x13 wd.heap.size (fun _ => True) (.slice Al ms.length cl) ms)
              clear r_ hs_
              refine hK.out _ _ (pw_cell_below HSx13.out hHeld) (fun hHeld => ?_)
              clear hK K
              refine norm_ (a' := ?_) ?_ ?_
              rotate_left
              · show Act.put _ (some 45) _ = _
                simp only [Act.put, List.setIfInBounds_toArray, List.set_cons_zero, List.set_cons_succ, i64_w, i32_w]
                rfl
              refine one_ (i := 7) (N := some 39) #[true, true, true, true, true, true, true, true, true, true, true, true, true, true, false, false, true, false] rfl rfl (by kernel_rfl) (by decide) (fun K hK => ?_)
              obtain ⟨ad7, e7_, hc7⟩ := Kd.at_int (Kd.C_below HR0.out HSx13.out) u hu0 (by simpa using hu1)
              injection e7_ with e7_
              subst e7_
              try rw [add_plain] at hc7
              refine value_ (w1 := ?_) (v := ?_) (by rfl) rfl ?_ ?_
              rotate_left 2
              · go_simp
                constructor
                · rfl
                · rfl
              refine hK.out _ _ (hHeld) (fun hHeld => ?_)
              clear hK K
              refine norm_ (a' := ?_) ?_ ?_
              rotate_left
              · show Act.put _ (some 39) _ = _
                simp only [Act.put, List.setIfInBounds_toArray, List.set_cons_zero, List.set_cons_succ, i64_w, i32_w]
                rfl
              refine pure_ (i := 14) (N := some 46) (v := ?_) (a' := ?_) #[true, true, true, true, true, true, true, true, true, true, true, true, true, true, true, false, true, false] rfl rfl (by kernel_rfl) (fun _ _ _ h => h) (Or.inl ⟨by rfl, ?_⟩) ?_ ?_
              rotate_left
              · intro w'
                go_simp
                with_reducible rfl
              rotate_left
              · simp only [Act.put, List.setIfInBounds_toArray, List.set_cons_zero, List.set_cons_succ, i64_w, i32_w]
                rfl
              refine one_ (i := 15) (N := some 47) #[true, true, true, true, true, true, true, true, true, true, true, true, true, true, true, true, true, false] rfl rfl (by kernel_rfl) (by decide) (fun K hK => ?_)
              have hg15 := synodallaw2_Good.calls 5 (rd [2, 4, 1] u) 0 0 ⟨#[]⟩ _ (.slice Al ms.length cl) ms 0 (rd [2, 4, 1] u) 0 0 ⟨#[]⟩ ms 0 wd x13 HBx13.out (Kd.R_tight rfl HOx13.out) (good_e (rd [2, 4, 1] u) ms (kd_cases u hu0 hu1) HM7.out)
              refine goes_ Try.func50 (by kernel_rfl) rfl #[.agg #[.int .i64 (rd [2, 4, 1] u), .int .i64 0, .int .i64 0, .string ⟨#[]⟩, .slice Al ms.length cl, .int .i64 0]] (by rfl) rfl rfl (by simp only [List.map_toArray, List.map_cons, List.map_nil]; rfl) ?_
              with_reducible refine (hg15).mono ?_
              rintro e_ x15 ⟨v15, rfl, r_, hb15_, hk15_⟩
              refine ⟨_, rfl, ?_⟩
              have HBx15 := Aside0.mk hb15_
              have HKx15 := Aside0.mk hk15_
              obtain ⟨Am, cm, e1_⟩ := Kd.R_slice r_
              subst e1_
              have HR15 := Aside0.mk r_
              clear r_ hb15_ hk15_ hg15
              refine hK.out _ _ (pw_cell_below HBx15.out hHX) (fun hHeld => ?_)
              clear hK K
              refine norm_ (a' := ?_) ?_ ?_
              rotate_left
              · show Act.put _ (some 47) _ = _
                simp only [Act.put, List.setIfInBounds_toArray, List.set_cons_zero, List.set_cons_succ, i64_w, i32_w]
                rfl
              exact norm_ (by simp only [putAll, Act.put, List.setIfInBounds_toArray, List.set_cons_zero, List.set_cons_succ]) (hCont ((Value.slice (some ⟨g0, 0, none⟩) 3 cap0), u, (Value.pointer (some ⟨g0, u.toNat, none⟩)), (rd [2, 4, 1] u), (Value.slice Al ms.length cl), (Value.agg #[.int .i64 (rd [2, 4, 1] u), .int .i64 0, .int .i64 0, .string ⟨#[]⟩, .slice Al ms.length cl, .int .i64 0]), (Value.agg #[.int .i64 (rd [2, 4, 1] u), .int .i64 0, .int .i64 0, .string ⟨#[]⟩, .slice Am ms.length cm, .int .i64 0]), g9) _ ⟨HBx15.out, kd_cases u hu0 hu1, ⟨Am, cm, rfl, Kd.R_mono HR15.out (fun _ _ => trivial)⟩, ((HKx15.out.2 _ (blk_lt (blk_below (blk_below (blk_below HH9.out HSx5.out) HSx0.out) HSx13.out)) (fun he_ => own_ne (Kd.own_of_R HOx13.out) (blk_below (blk_below (blk_below HH9.out HSx5.out) HSx0.out) HSx13.out) (by decide) he_)).trans (blk_below (blk_below (blk_below HH9.out HSx5.out) HSx0.out) HSx13.out)), HG9.out⟩)
          · skip
            refine goes_ Try.func51 (by kernel_rfl) rfl #[.int .i64 (wrap64 (nv.tdiv 3))] (by rfl) rfl rfl (by simp only [List.map_toArray, List.map_cons, List.map_nil]; rfl) ?_
            with_reducible refine (synodallaw8_List.calls 20 (wrap64 (nv.tdiv 3)) ms _ HMS.out).mono ?_
            rintro e_ x13 ⟨v13, rfl, r_, hs_⟩
            refine ⟨_, rfl, ?_⟩
            have HSx13 := Aside0.mk hs_
            have HBx13 := Aside0.mk (below_then HBx5.out HBx5.out.size hs_ : Below wd.heap.size wd x13)
            obtain ⟨Al, cl, e1_⟩ := Kd.R_slice r_
            subst e1_
            have HOx13 := Aside0.mk (Kd.R_lower r_ HBx5.out.size : Kd.R (Kd.int .i64) 3 x13 wd.heap.size (fun _ => True) (.slice Al ms.length cl) ms)
            clear r_ hs_
            refine hK.out _ _ (pw_cell_below HSx13.out hHeld) (fun hHeld => ?_)
            clear hK K
            refine norm_ (a' := ?_) ?_ ?_
            rotate_left
            · show Act.put _ (some 45) _ = _
              simp only [Act.put, List.setIfInBounds_toArray, List.set_cons_zero, List.set_cons_succ, i64_w, i32_w]
              rfl
            refine one_ (i := 0) (N := some 32) #[true, true, true, true, true, true, false, false, true, true, true, true, true, true, false, false, true, false] rfl rfl (by kernel_rfl) (by decide) (fun K hK => ?_)
            refine Kd.R_lit_step (Kd.int .i64) (w0 := x13) x13.heap.size 3 (by rfl) (N := 32) rfl (xs := [2, 4, 1]) (inner := [.int .i64 2, .int .i64 4, .int .i64 1]) (ok := fun _ => True) (okp := fun _ => False) ?hr (Reps.cons_ (show (Kd.int .i64).M _ _ _ (2 : Int) [.int .i64 2] from rfl) rfl (Reps.cons_ (show (Kd.int .i64).M _ _ _ (4 : Int) [.int .i64 4] from rfl) rfl (Reps.cons_ (show (Kd.int .i64).M _ _ _ (1 : Int) [.int .i64 1] from rfl) rfl (Reps.none _ _)))) (fun _ h => h.elim) trivial (Below.refl _ _) (Nat.le_refl _) (by simp) ?_
            (case hr => first | (go_simp; done) | (go_simp; rfl))
            intro v0 x0 r_ hs_ g_ n_
            have HSx0 := Aside0.mk hs_
            have HBx0 := Aside0.mk (below_then HBx13.out HBx13.out.size hs_ : Below wd.heap.size wd x0)
            obtain ⟨g0, cap0, e0_, _⟩ := Kd.R_form r_ (by simp)
            have e1_ : v0 = .slice (some ⟨g0, 0, none⟩) 3 cap0 := e0_
            subst e1_
            have HR0 := Aside0.mk (Kd.R_reads' r_).2.2
            clear r_ hs_ g_ n_ e0_
            refine hK.out _ _ (pw_cell_below HSx0.out hHeld) (fun hHeld => ?_)
            clear hK K
            refine norm_ (a' := ?_) ?_ ?_
            rotate_left
            · show Act.put _ (some 32) _ = _
              simp only [Act.put, List.setIfInBounds_toArray, List.set_cons_zero, List.set_cons_succ, i64_w, i32_w]
              rfl
            refine pure_ (i := 6) (N := some 38) (v := ?_) (a' := ?_) #[true, true, true, true, true, true, true, false, true, true, true, true, true, true, false, false, true, false] rfl rfl (by kernel_rfl) (fun _ _ _ h => h) (Or.inl ⟨by rfl, ?_⟩) ?_ ?_
            rotate_left
            · intro w'
              go_simp
              with_reducible rfl
            rotate_left
            · simp only [Act.put, List.setIfInBounds_toArray, List.set_cons_zero, List.set_cons_succ, i64_w, i32_w]
              rfl
            refine one_ (i := 7) (N := some 39) #[true, true, true, true, true, true, true, true, true, true, true, true, true, true, false, false, true, false] rfl rfl (by kernel_rfl) (by decide) (fun K hK => ?_)
            obtain ⟨ad7, e7_, hc7⟩ := Kd.at_int HR0.out u hu0 (by simpa using hu1)
            injection e7_ with e7_
            subst e7_
            try rw [add_plain] at hc7
            refine value_ (w1 := ?_) (v := ?_) (by rfl) rfl ?_ ?_
            rotate_left 2
            · go_simp
              constructor
              · rfl
              · rfl
            refine hK.out _ _ (hHeld) (fun hHeld => ?_)
            clear hK K
            refine norm_ (a' := ?_) ?_ ?_
            rotate_left
            · show Act.put _ (some 39) _ = _
              simp only [Act.put, List.setIfInBounds_toArray, List.set_cons_zero, List.set_cons_succ, i64_w, i32_w]
              rfl
            refine pure_ (i := 14) (N := some 46) (v := ?_) (a' := ?_) #[true, true, true, true, true, true, true, true, true, true, true, true, true, true, true, false, true, false] rfl rfl (by kernel_rfl) (fun _ _ _ h => h) (Or.inl ⟨by rfl, ?_⟩) ?_ ?_
            rotate_left
            · intro w'
              go_simp
              with_reducible rfl
            rotate_left
            · simp only [Act.put, List.setIfInBounds_toArray, List.set_cons_zero, List.set_cons_succ, i64_w, i32_w]
              rfl
            refine one_ (i := 15) (N := some 47) #[true, true, true, true, true, true, true, true, true, true, true, true, true, true, true, true, true, false] rfl rfl (by kernel_rfl) (by decide) (fun K hK => ?_)
            have hg15 := synodallaw2_Good.calls 5 (rd [2, 4, 1] u) 0 0 ⟨#[]⟩ _ (.slice Al ms.length cl) ms 0 (rd [2, 4, 1] u) 0 0 ⟨#[]⟩ ms 0 wd x0 HBx0.out (Kd.R_tight rfl (Kd.R_below HOx13.out HSx0.out)) (good_e (rd [2, 4, 1] u) ms (kd_cases u hu0 hu1) HM7.out)
            refine goes_ Try.func50 (by kernel_rfl) rfl #[.agg #[.int .i64 (rd [2, 4, 1] u), .int .i64 0, .int .i64 0, .string ⟨#[]⟩, .slice Al ms.length cl, .int .i64 0]] (by rfl) rfl rfl (by simp only [List.map_toArray, List.map_cons, List.map_nil]; rfl) ?_
            with_reducible refine (hg15).mono ?_
            rintro e_ x15 ⟨v15, rfl, r_, hb15_, hk15_⟩
            refine ⟨_, rfl, ?_⟩
            have HBx15 := Aside0.mk hb15_
            have HKx15 := Aside0.mk hk15_
            obtain ⟨Am, cm, e1_⟩ := Kd.R_slice r_
            subst e1_
            have HR15 := Aside0.mk r_
            clear r_ hb15_ hk15_ hg15
            refine hK.out _ _ (pw_cell_below HBx15.out hHX) (fun hHeld => ?_)
            clear hK K
            refine norm_ (a' := ?_) ?_ ?_
            rotate_left
            · show Act.put _ (some 47) _ = _
              simp only [Act.put, List.setIfInBounds_toArray, List.set_cons_zero, List.set_cons_succ, i64_w, i32_w]
              rfl
            exact norm_ (by simp only [putAll, Act.put, List.setIfInBounds_toArray, List.set_cons_zero, List.set_cons_succ]) (hCont ((Value.slice (some ⟨g0, 0, none⟩) 3 cap0), u, (Value.pointer (some ⟨g0, u.toNat, none⟩)), (rd [2, 4, 1] u), (Value.slice Al ms.length cl), (Value.agg #[.int .i64 (rd [2, 4, 1] u), .int .i64 0, .int .i64 0, .string ⟨#[]⟩, .slice Al ms.length cl, .int .i64 0]), (Value.agg #[.int .i64 (rd [2, 4, 1] u), .int .i64 0, .int .i64 0, .string ⟨#[]⟩, .slice Am ms.length cm, .int .i64 0]), g9) _ ⟨HBx15.out, kd_cases u hu0 hu1, ⟨Am, cm, rfl, Kd.R_mono HR15.out (fun _ _ => trivial)⟩, ((HKx15.out.2 _ (blk_lt (blk_below (blk_below (blk_below HH9.out HSx5.out) HSx13.out) HSx0.out)) (fun he_ => own_ne (Kd.own_of_R (Kd.R_below HOx13.out HSx0.out)) (blk_below (blk_below (blk_below HH9.out HSx5.out) HSx13.out) HSx0.out) (by decide) he_)).trans (blk_below (blk_below (blk_below HH9.out HSx5.out) HSx13.out) HSx0.out)), HG9.out⟩)
    rintro ⟨v32, u, v38, kd, v45, v46, v47, g9⟩ w4 ⟨hb4, hkd, ⟨Am, cm, e47, hr4⟩, hh4, hg4⟩
    dsimp only at hkd e47 hh4 hg4
    subst e47
    have HB4 := Aside0.mk hb4
    have HKD := Aside0.mk hkd
    have HR4 := Aside0.mk hr4
    have HH4 := Aside0.mk hh4
    have HG4 := Aside0.mk hg4
    clear hb4 hkd hr4 hh4 hg4
    have hHeld : w4.cell? (ad.add i) = some (Value.int .i64 nv) := pw_cell_below HB4.out hHX
    refine norm_ (a' := ?_) ?_ ?_
    rotate_left
    · simp only [putAll, Act.put, List.setIfInBounds_toArray, List.set_cons_zero, List.set_cons_succ]
      rfl
    refine last_ (i := 17) (N := none) #[true, true, true, true, true, true, true, true, true, true, true, true, true, true, true, true, true, true] rfl rfl (by kernel_rfl) (by decide) (fun K hK => ?_)
    have hs17_0 := blk_cell HH4.out 0
    have hs17_1 := blk_cell HH4.out 1
    have hs17_2 := blk_cell HH4.out 2
    have hs17_3 := blk_cell HH4.out 3
    have hs17_4 := blk_cell HH4.out 4
    have hs17_5 := blk_cell HH4.out 5
    have hf17_0 := blk_frozen HH4.out 0
    have hf17_1 := blk_frozen HH4.out 1
    have hf17_2 := blk_frozen HH4.out 2
    have hf17_3 := blk_frozen HH4.out 3
    have hf17_4 := blk_frozen HH4.out 4
    have hf17_5 := blk_frozen HH4.out 5
    refine skip_ (w1 := ?_) (by rfl) rfl ?_ ?_
    rotate_left
    · go_simp
      rfl
    refine hK.out _ _ ?_
    clear hK K
    refine done_ (by kernel_rfl) ?_
    clear hHeld hs17_0 hs17_1 hs17_2 hs17_3 hs17_4 hs17_5 hf17_0 hf17_1 hf17_2 hf17_3 hf17_4 hf17_5
    obtain ⟨hb5, hk5⟩ := sets6 w4 g9 77 _ _ _ _ _ _ (.int .i64 kd) (.int .i64 0) (.int .i64 0) (.string ⟨#[]⟩) (.slice Am ms.length cm) (.int .i64 0) HH4.out
    generalize hw5 : World.setCell _ _ _ = w5
    rw [hw5] at hb5 hk5
    have hsd : wd.heap.size = wr.heap.size := HSD.out
    have hb45 : Below wr.heap.size wr w5 := below_kept (below_then HBD.out HBD.out.size HB4.out) (by have := HB4.out.size; omega) (fun q hq => by subst hq; have := HG4.out; omega) hk5
    have HL5 := Aside0.mk (HL.out.below hb45)
    have HC5 := Aside0.mk (HC.out.below hb45)
    have HW5 := Aside0.mk (HW.out.below hb45)
    have hgcl : gc < wr.heap.size := by obtain ⟨_, _, _, _, h, _⟩ := HC.out; exact blk_lt h
    have hgwl : gw < wr.heap.size := by obtain ⟨_, _, _, _, h, _⟩ := HW.out; exact blk_lt h
    have HM5 : Aside0 (Rw (Kd.int .i64) 3 w5 w.heap.size F (fun q => q = gc ∨ q = gw) (.slice Am ms.length cm) ms) := ⟨by
      have h1 := R_kept_ (Kd.R_tight rfl HR4.out) hk5 (fun q hq he => by subst he; exact own_ne (Kd.own_of_R HR4.out) HH4.out (by decide) hq)
      have h2 := Kd.R_lower (Kd.R_bound h1) (show w.heap.size ≤ wd.heap.size by have := HL.out.2.2.size; omega)
      exact Kd.R_mono h2 (fun q hq => ⟨fun hf => by have h3 := HL.out.lt q hf; have h4 := hq.2.1; omega, fun he => by have h4 := hq.2.1; omega, hq.2.2.1⟩)⟩
    have HE5 : Aside0 (Bk w5 F (fun q => q = gc ∨ q = gw) g9 #[.int .i64 kd, .int .i64 0, .int .i64 0, .string ⟨#[]⟩, .slice Am ms.length cm, .int .i64 0] 77) := ⟨⟨hb5, fun hf => by have h3 := HL.out.lt g9 hf; have h4 := HG4.out; omega, fun he => by have h4 := HG4.out; omega⟩⟩
    have HGL := Aside0.mk (And.intro hgcl hgwl)
    clear hw5 hb5 hk5 hsd hb45 hgcl hgwl HL HC HW HR4 HH4 HB4 HBD HG4 HSD HGL hHX
    have he0 := blk_cell HE5.out.1 0
    have he1 := blk_cell HE5.out.1 1
    have he2 := blk_cell HE5.out.1 2
    have he3 := blk_cell HE5.out.1 3
    have he4 := blk_cell HE5.out.1 4
    have he5 := blk_cell HE5.out.1 5
    have hap := app_ones l (⟨kd, 0, 0, ⟨#[]⟩, ms, 0⟩ : S77) (fun y hy => (HY.out y hy).1) (by have := HLN.out; omega)
    have HAP := Aside0.mk hap
    clear hap
    go_upto_region 11 with (first
      | ((with_reducible refine gate_dst (N := 51) rfl ?_); refine Kd.R_lit k77 w.heap.size 77 ?hg (N := 51) ?hd (w0 := w) (xs := [(⟨kd, 0, 0, ⟨#[]⟩, ms, 0⟩ : S77)]) (inner := [.int .i64 kd, .int .i64 0, .int .i64 0, .string ⟨#[]⟩, .slice Am ms.length cm, .int .i64 0]) (ok := fun q => ¬ F q) (okp := Off w5 F (fun q => q = gc ∨ q = gw)) ?hr ?hp (fun _ hq => hq.1) (fun hf => Nat.lt_irrefl _ (HL5.out.lt _ hf)) HL5.out.2.2 HL5.out.2.2.size (by simp) ?_; (case hd => rfl); (case hg => rfl); (case hr => first | (go_simp; done) | (go_simp; rfl)); (case hp => exact Reps.cons_ (show Kd.M k77 _ _ _ (⟨kd, 0, 0, ⟨#[]⟩, ms, 0⟩ : S77) [.int .i64 kd, .int .i64 0, .int .i64 0, .string ⟨#[]⟩, .slice Am ms.length cm, .int .i64 0] from k77_mkM _ _ _ (⟨kd, 0, 0, ⟨#[]⟩, ms, 0⟩ : S77) HM5.out) rfl (Reps.none _ _)); intro v6 w6 hr_ hb_ hg_ hn_; have HR6 := Aside0.mk hr_; have HB6 := Aside0.mk (grown_below hg_); clear hr_ hb_ hg_ hn_; obtain ⟨A6, c6, e6_⟩ := Kd.R_slice HR6.out; subst e6_)
      | (go_at_call 33; refine (append_live (HL5.out.below HB6.out) 1 A6 c6 [(⟨kd, 0, 0, ⟨#[]⟩, ms, 0⟩ : S77)] (fun W' hk => (Kd.R_reads' (R_kept_ HR6.out hk (fun q hq hf => hq hf))).2.2) (Kd.R_reads' HR6.out).2.1 (by simp) (fun z hz => by simp only [List.mem_singleton] at hz; subst hz; have := HM7.out; show ms.length < _; omega)).mono ?_; rintro e_ w7 ⟨F7, rfl, hl7, hF7, hk7⟩; rw [HAP.out]; rw [HAP.out] at hl7; have HL7 : Aside0 (Live w w7 g F7 0 (l ++ [⟨1, (⟨kd, 0, 0, ⟨#[]⟩, ms, 0⟩ : S77)⟩])) := ⟨hl7⟩; have HC7 := Aside0.mk ((HC5.out.below HB6.out).putH hF7 hk7); have HW7 := Aside0.mk ((HW5.out.below HB6.out).putH hF7 hk7); have HM7r := Aside0.mk ((HM5.out.below HB6.out).putH hF7 hk7); have HE7 := Aside0.mk ((HE5.out.below HB6.out).putH hF7 hk7); clear hl7 hF7 hk7))
    clear HL5 HC5 HW5 HM5 HE5 HR6 HB6 HAP he0 he1 he2 he3 he4 he5
    have hle := cf_le l ([], pr) (by simp) (by have := HPR.out; show pr.length ≤ 1000; omega) (fun y hy => by have := (HY.out y hy).2; omega)
    rw [HCF.out] at hle
    have HLE := Aside0.mk hle
    have hcfn : cf (l ++ [⟨1, (⟨kd, 0, 0, ⟨#[]⟩, ms, 0⟩ : S77)⟩]) ([], pr) = cf1 co cn kd ms := by rw [cf_snoc, HCF.out]
    have HCFN := Aside0.mk hcfn
    have he0 := blk_cell HE7.out.1 0
    have he4 := blk_cell HE7.out.1 4
    clear hle hcfn
    go_upto_block 2 with (fail)
    go_cut [] (fun wc => ∃ (co' cn' : List Int), Aside0 (Live w wc g F7 0 (l ++ [⟨1, (⟨kd, 0, 0, ⟨#[]⟩, ms, 0⟩ : S77)⟩])) ∧ Aside0 (Cn w wc F7 (fun q => q = gc ∨ q = gw) gc co' cn') ∧ Aside0 (Cn w wc F7 (fun q => q = gc ∨ q = gw) gw [] pr) ∧ Aside0 (cf (l ++ [⟨1, (⟨kd, 0, 0, ⟨#[]⟩, ms, 0⟩ : S77)⟩]) ([], pr) = (co', cn')))
    case first =>
      rcases HKD.out with hkd | hkd | hkd
      · have d2 : (kd == 2) = true := beq_iff_eq.mpr hkd
        have d4 : (kd == 4) = false := beq_eq_false_iff_ne.mpr (by omega)
        obtain ⟨Ao, coc, An, cnc, hgC, hRo, hRn, hnF⟩ := HC7.out
        obtain ⟨r1, r2, r3, hr⟩ : ∃ r1 r2 r3, CP.enter co cn ms = (r1, r2, r3) := ⟨_, _, _, rfl⟩
        have HRF := Aside0.mk (show synodalref8_Enter.f 3000 co cn ms = some (r1, r2, r3) by rw [CP.renter_f co cn ms HLE.out.2 (by have := HM7.out; omega) 3000 (by have := HM7.out; have h9 : cn.length ≤ 1000 := HLE.out.2; omega), hr])
        have hcf2 : cf1 co cn kd ms = if r3 = 0 then (r1, r2) else (co, cn) := by unfold cf1; rw [if_pos hkd, hr]
        have HCF2 := Aside0.mk hcf2
        have HCo := Aside0.mk (Kd.R_reads' hRo).2
        have HCn := Aside0.mk (Kd.R_reads' hRn).2
        have HCm := Aside0.mk (Kd.R_reads' HM7r.out).2
        have HGC := Aside0.mk hgC
        have HNF := Aside0.mk hnF
        have hb0 := blk_cell hgC 0
        have hb1 := blk_cell hgC 1
        clear hgC hRo hRn hnF hr hcf2 hkd
        go_upto_region 16 with (first
          | (go_at_call 52; refine (synodalref8_Enter.calls 3000 Ao coc co An cnc cn Am cm ms r1 r2 r3 _ HCo.out.2 HCo.out.1 HCn.out.2 HCn.out.1 HCm.out.2 HCm.out.1 HRF.out).mono ?_; rintro e_ w8 ⟨v0_, v1_, rfl, hr0_, hr1_, hb_⟩; obtain ⟨Ae, ce, e0_⟩ := Kd.R_slice hr0_; obtain ⟨Af, cf_, e1_⟩ := Kd.R_slice hr1_; subst e0_; subst e1_; have HRE := Aside0.mk (Kd.R_mono hr0_ (fun _ _ => trivial) : Kd.R (Kd.int .i64) 3 w8 w7.heap.size (fun _ => True) (.slice Ae r1.length ce) r1); have HRF2 := Aside0.mk (Kd.R_mono hr1_ (fun _ _ => trivial) : Kd.R (Kd.int .i64) 3 w8 w7.heap.size (fun _ => True) (.slice Af r2.length cf_) r2); have HB8 := Aside0.mk hb_; clear hr0_ hr1_ hb_))
        generalize hw9 : World.alloc w8 _ = w9
        have hb89 : Below w8.heap.size w8 w9 := by rw [← hw9]; exact below_alloc (Below.refl _ _) _
        have hx9 : w9.heap[w8.heap.size]? = some (.cells #[.slice Ae r1.length ce, .slice Af r2.length cf_] 26 (0, 0)) := by rw [← hw9]; exact heap_alloc_new _ _
        obtain ⟨gz, hgz⟩ : ∃ q, w8.heap.size = q := ⟨_, rfl⟩
        rw [hgz] at hx9 ⊢
        have HB79 := Aside0.mk (below_then HB8.out HB8.out.size hb89)
        have HB89 := Aside0.mk hb89
        have hz0 := blk_cell hx9 0
        have hz1 := blk_cell hx9 1
        have BC9 := Aside0.mk (blk_below HGC.out HB79.out)
        have hc0 := blk_cell BC9.out 0
        have hc1 := blk_cell BC9.out 1
        have hf0 := blk_frozen BC9.out 0
        have hf1 := blk_frozen BC9.out 1
        have HL9 := Aside0.mk (HL7.out.below HB79.out)
        have HC9 := Aside0.mk (HC7.out.below HB79.out)
        have HW9 := Aside0.mk (HW7.out.below HB79.out)
        clear hw9 hb89 hx9 hgz hb0 hb1
        by_cases hr3 : r3 = 0
        · have d3 : (r3 == 0) = true := beq_iff_eq.mpr hr3
          have HR3 := Aside0.mk hr3
          clear hr3
          go_wp2
          go_meet
          case rel =>
            obtain ⟨hb10, hk10⟩ := sets2 w9 gc 26 _ _ (.slice Ae r1.length ce) (.slice Af r2.length cf_) BC9.out
            generalize hw10 : World.setCell _ _ _ = w10
            rw [hw10] at hb10 hk10
            have hgc7 := blk_lt HGC.out
            have hgw7 : gw < w7.heap.size := by obtain ⟨_, _, _, _, h, _⟩ := HW7.out; exact blk_lt h
            have hrow : ∀ (v : Value) (r : List Int), Kd.R (Kd.int .i64) 3 w8 w7.heap.size (fun _ => True) v r → Rw (Kd.int .i64) 3 w10 w.heap.size F7 (fun q => q = gc ∨ q = gw) v r := fun v r h => by
              have h1 := R_kept_ (Kd.R_mono (Kd.R_bound (Kd.R_below h HB89.out)) (ok' := fun q => w7.heap.size ≤ q) (fun q hq => hq.2.1)) hk10 (fun q hq he => by omega)
              have h2 := Kd.R_lower (Kd.R_bound h1) HL7.out.2.2.size
              exact Kd.R_mono h2 (fun q hq => ⟨fun hf => by have h3 := HL7.out.lt q hf; have h4 := hq.1; omega, fun he => by have h4 := hq.1; omega, hq.2.2.1⟩)
            refine ⟨r1, r2, ⟨HL9.out.kept hk10 (fun q hf he => by subst he; exact HNF.out hf) (fun q hq => by subst hq; exact HGE.out.1)⟩, ⟨⟨Ae, ce, Af, cf_, hb10, hrow _ _ HRE.out, hrow _ _ HRF2.out, HNF.out⟩⟩, ⟨HW9.out.kept hk10 (fun q hq => .inr (.inl hq)) (fun he => HNE.out he.symm)⟩, ⟨?_⟩⟩
            rw [HCFN.out, HCF2.out, if_pos HR3.out]
        · have d3 : (r3 == 0) = false := beq_eq_false_iff_ne.mpr hr3
          have HR3 := Aside0.mk hr3
          clear hr3
          go_wp2
          go_meet
          case rel =>
            refine ⟨co, cn, HL9, HC9, HW9, ⟨?_⟩⟩
            rw [HCFN.out, HCF2.out, if_neg HR3.out]
      · have d2 : (kd == 2) = false := beq_eq_false_iff_ne.mpr (by omega)
        have d4 : (kd == 4) = true := beq_iff_eq.mpr hkd
        obtain ⟨Ao, coc, An, cnc, hgC, hRo, hRn, hnF⟩ := HC7.out
        obtain ⟨r1, r2, r3, hr⟩ : ∃ r1 r2 r3, CP.leave co cn = (r1, r2, r3) := ⟨_, _, _, rfl⟩
        have HRF := Aside0.mk (show synodalref8_Leave.f co cn = some (r1, r2, r3) by rw [CP.rleave_f co cn HLE.out.2, hr])
        have hcf2 : cf1 co cn kd ms = if r3 = 0 then (r1, r2) else (co, cn) := by unfold cf1; rw [if_neg (by omega), if_pos hkd, hr]
        have HCF2 := Aside0.mk hcf2
        have HCo := Aside0.mk (Kd.R_reads' hRo).2
        have HCn := Aside0.mk (Kd.R_reads' hRn).2
        have HCm := Aside0.mk (Kd.R_reads' HM7r.out).2
        have HGC := Aside0.mk hgC
        have HNF := Aside0.mk hnF
        have hb0 := blk_cell hgC 0
        have hb1 := blk_cell hgC 1
        clear hgC hRo hRn hnF hr hcf2 hkd
        go_upto_region 20 with (first
          | (go_at_call 53; refine (synodalref8_Leave.calls Ao coc co An cnc cn r1 r2 r3 _ HCo.out.2 HCo.out.1 HCn.out.2 HCn.out.1 HRF.out).mono ?_; rintro e_ w8 ⟨v0_, v1_, rfl, hr0_, hr1_, hb_⟩; obtain ⟨Ae, ce, e0_⟩ := Kd.R_slice hr0_; obtain ⟨Af, cf_, e1_⟩ := Kd.R_slice hr1_; subst e0_; subst e1_; have HRE := Aside0.mk (Kd.R_mono hr0_ (fun _ _ => trivial) : Kd.R (Kd.int .i64) 3 w8 w7.heap.size (fun _ => True) (.slice Ae r1.length ce) r1); have HRF2 := Aside0.mk (Kd.R_mono hr1_ (fun _ _ => trivial) : Kd.R (Kd.int .i64) 3 w8 w7.heap.size (fun _ => True) (.slice Af r2.length cf_) r2); have HB8 := Aside0.mk hb_; clear hr0_ hr1_ hb_))
        generalize hw9 : World.alloc w8 _ = w9
        have hb89 : Below w8.heap.size w8 w9 := by rw [← hw9]; exact below_alloc (Below.refl _ _) _
        have hx9 : w9.heap[w8.heap.size]? = some (.cells #[.slice Ae r1.length ce, .slice Af r2.length cf_] 26 (0, 0)) := by rw [← hw9]; exact heap_alloc_new _ _
        obtain ⟨gz, hgz⟩ : ∃ q, w8.heap.size = q := ⟨_, rfl⟩
        rw [hgz] at hx9 ⊢
        have HB79 := Aside0.mk (below_then HB8.out HB8.out.size hb89)
        have HB89 := Aside0.mk hb89
        have hz0 := blk_cell hx9 0
        have hz1 := blk_cell hx9 1
        have BC9 := Aside0.mk (blk_below HGC.out HB79.out)
        have hc0 := blk_cell BC9.out 0
        have hc1 := blk_cell BC9.out 1
        have hf0 := blk_frozen BC9.out 0
        have hf1 := blk_frozen BC9.out 1
        have HL9 := Aside0.mk (HL7.out.below HB79.out)
        have HC9 := Aside0.mk (HC7.out.below HB79.out)
        have HW9 := Aside0.mk (HW7.out.below HB79.out)
        clear hw9 hb89 hx9 hgz hb0 hb1
        by_cases hr3 : r3 = 0
        · have d3 : (r3 == 0) = true := beq_iff_eq.mpr hr3
          have HR3 := Aside0.mk hr3
          clear hr3
          go_wp2
          go_meet
          case rel =>
            obtain ⟨hb10, hk10⟩ := sets2 w9 gc 26 _ _ (.slice Ae r1.length ce) (.slice Af r2.length cf_) BC9.out
            generalize hw10 : World.setCell _ _ _ = w10
            rw [hw10] at hb10 hk10
            have hgc7 := blk_lt HGC.out
            have hgw7 : gw < w7.heap.size := by obtain ⟨_, _, _, _, h, _⟩ := HW7.out; exact blk_lt h
            have hrow : ∀ (v : Value) (r : List Int), Kd.R (Kd.int .i64) 3 w8 w7.heap.size (fun _ => True) v r → Rw (Kd.int .i64) 3 w10 w.heap.size F7 (fun q => q = gc ∨ q = gw) v r := fun v r h => by
              have h1 := R_kept_ (Kd.R_mono (Kd.R_bound (Kd.R_below h HB89.out)) (ok' := fun q => w7.heap.size ≤ q) (fun q hq => hq.2.1)) hk10 (fun q hq he => by omega)
              have h2 := Kd.R_lower (Kd.R_bound h1) HL7.out.2.2.size
              exact Kd.R_mono h2 (fun q hq => ⟨fun hf => by have h3 := HL7.out.lt q hf; have h4 := hq.1; omega, fun he => by have h4 := hq.1; omega, hq.2.2.1⟩)
            refine ⟨r1, r2, ⟨HL9.out.kept hk10 (fun q hf he => by subst he; exact HNF.out hf) (fun q hq => by subst hq; exact HGE.out.1)⟩, ⟨⟨Ae, ce, Af, cf_, hb10, hrow _ _ HRE.out, hrow _ _ HRF2.out, HNF.out⟩⟩, ⟨HW9.out.kept hk10 (fun q hq => .inr (.inl hq)) (fun he => HNE.out he.symm)⟩, ⟨?_⟩⟩
            rw [HCFN.out, HCF2.out, if_pos HR3.out]
        · have d3 : (r3 == 0) = false := beq_eq_false_iff_ne.mpr hr3
          have HR3 := Aside0.mk hr3
          clear hr3
          go_wp2
          go_meet
          case rel =>
            refine ⟨co, cn, HL9, HC9, HW9, ⟨?_⟩⟩
            rw [HCFN.out, HCF2.out, if_neg HR3.out]
      · have d2 : (kd == 2) = false := beq_eq_false_iff_ne.mpr (by omega)
        have d4 : (kd == 4) = false := beq_eq_false_iff_ne.mpr (by omega)
        have hcf2 : cf1 co cn kd ms = (co, cn) := by unfold cf1; rw [if_neg (by omega), if_neg (by omega)]
        have HCF2 := Aside0.mk hcf2
        clear hkd hcf2
        go_wp2
        go_meet
        case rel =>
          refine ⟨co, cn, HL7, HC7, HW7, ⟨?_⟩⟩
          rw [HCFN.out, HCF2.out]
    case rest =>
      obtain ⟨co', cn', HLc, HCc, HWc, HCFc⟩ := hcut
      obtain ⟨Ap, cp, Aq, cq, hgC, hRp, hRq, _⟩ := HCc.out
      obtain ⟨Ar, cr, As, cs, hgW, hRr, hRs, _⟩ := HWc.out
      have hcle := cf_le (l ++ [⟨1, (⟨kd, 0, 0, ⟨#[]⟩, ms, 0⟩ : S77)⟩]) ([], pr) (by simp) (by have := HPR.out; show pr.length ≤ 1000; omega) (fun y hy => by
        rcases List.mem_append.1 hy with hy | hy
        · have := (HY.out y hy).2; omega
        · simp only [List.mem_singleton] at hy; subst hy; have := HM7.out; show ms.length ≤ 1000; omega)
      rw [HCFc.out] at hcle
      have HCLE := Aside0.mk hcle
      have HBD := Aside0.mk (show Below wc.heap.size wc wc.drew from below_drew (Below.refl _ _))
      have HID := Aside0.mk (HLc.out.1.below HBD.out)
      have BCD := Aside0.mk (blk_below hgC HBD.out)
      have BWD := Aside0.mk (blk_below hgW HBD.out)
      have HCp := Aside0.mk (Kd.R_reads' (Kd.R_below hRp HBD.out)).2
      have HCq := Aside0.mk (Kd.R_reads' (Kd.R_below hRq HBD.out)).2
      have HCr := Aside0.mk (Kd.R_reads' (Kd.R_below hRr HBD.out)).2
      have HCs := Aside0.mk (Kd.R_reads' (Kd.R_below hRs HBD.out)).2
      have HMB := Aside0.mk (show ∀ y ∈ l ++ [(⟨1, (⟨kd, 0, 0, ⟨#[]⟩, ms, 0⟩ : S77)⟩ : S105)], y.f1.f4.length ≤ 1000 from fun y hy => by
        rcases List.mem_append.1 hy with hy | hy
        · have := (HY.out y hy).2; omega
        · simp only [List.mem_singleton] at hy; subst hy; have := HM7.out; show ms.length ≤ 1000; omega)
      have HPR2 := Aside0.mk (show pr.length ≤ 1000 by have := HPR.out; omega)
      clear hgC hgW hRp hRq hRr hRs hcle he0 he4
      go_wp2
      refine start_ (n := 6) (S := fun w' => w'.cell? ⟨gw, 0, none⟩ = some (Value.slice Ar ([] : List Int).length cr) ∧ w'.cell? ⟨gw, 1, none⟩ = some (Value.slice As pr.length cs) ∧ w'.cell? ⟨gc, 0, none⟩ = some (Value.slice Ap co'.length cp) ∧ w'.cell? ⟨gc, 1, none⟩ = some (Value.slice Aq cn'.length cq)) (ds := []) #[false, false, false, false, false, false] (by kernel_rfl) rfl rfl ⟨(blk_cell BWD.out 0).trans rfl, (blk_cell BWD.out 1).trans rfl, (blk_cell BCD.out 0).trans rfl, (blk_cell BCD.out 1).trans rfl⟩ (fun hHeld => ?_)
      generalize wc.drew = wd2 at HBD HID BCD BWD HCp HCq HCr HCs hHeld ⊢
      refine pure_ (i := 0) (N := some 81) (v := ?_) (a' := ?_) #[true, false, false, false, false, false] rfl rfl (by kernel_rfl) (fun _ _ _ h => h) (Or.inl ⟨by rfl, ?_⟩) ?_ ?_
      rotate_left
      · intro w'
        go_simp
        with_reducible rfl
      rotate_left
      · simp only [Act.put, List.setIfInBounds_toArray, List.set_cons_zero, List.set_cons_succ, i64_w, i32_w]
        rfl
      refine take_ (i := 1) (N := some 82) (v := ?_) (a' := ?_) #[true, true, false, false, false, false] rfl rfl (by kernel_rfl) (fun _ _ _ h => h) (Or.inl ⟨by rfl, ?_⟩) hHeld ?_ ?_
      rotate_left
      · rintro w' ⟨s0, s1, s2, s3⟩
        go_simp
        with_reducible rfl
      rotate_left
      · simp only [Act.put, List.setIfInBounds_toArray, List.set_cons_zero, List.set_cons_succ, i64_w, i32_w]
        rfl
      refine take_ (i := 3) (N := some 84) (v := ?_) (a' := ?_) #[true, true, false, true, false, false] rfl rfl (by kernel_rfl) (fun _ _ _ h => h) (Or.inl ⟨by rfl, ?_⟩) hHeld ?_ ?_
      rotate_left
      · rintro w' ⟨s0, s1, s2, s3⟩
        go_simp
        with_reducible rfl
      rotate_left
      · simp only [Act.put, List.setIfInBounds_toArray, List.set_cons_zero, List.set_cons_succ, i64_w, i32_w]
        rfl
      refine one_ (i := 2) (N := some 83) #[true, true, true, true, false, false] rfl rfl (by kernel_rfl) (by decide) (fun K hK => ?_)
      refine goes_ Try.func55 (by kernel_rfl) rfl #[.pointer (some ⟨g, 0, none⟩), .agg #[.slice Ar ([] : List Int).length cr, .slice As pr.length cs]] (by rfl) rfl rfl (by simp only [List.map_toArray, List.map_cons, List.map_nil]; rfl) ?_
      with_reducible refine (config_calls HID.out HMB.out Ar cr [] As cs pr HCr.out.2 HCr.out.1 HCs.out.2 HCs.out.1 (by simp) HPR2.out).mono ?_
      rintro e_ w58 ⟨v0_, v1_, rfl, hr0_, hr1_, hb_⟩
      refine ⟨_, rfl, ?_⟩
      rw [HCFc.out] at hr0_ hr1_
      obtain ⟨Ae, ce, e0_⟩ : ∃ A c, v0_ = Value.slice A co'.length c := Kd.R_slice hr0_
      obtain ⟨Af, cf_, e1_⟩ : ∃ A c, v1_ = Value.slice A cn'.length c := Kd.R_slice hr1_
      subst e0_
      subst e1_
      have HRE := Aside0.mk (Kd.R_reads' hr0_).2
      have HRF2 := Aside0.mk (Kd.R_reads' hr1_).2
      have HB58 := Aside0.mk hb_
      clear hr0_ hr1_ hb_
      refine hK.out _ _ ⟨pw_cell_below HB58.out (hHeld.1), pw_cell_below HB58.out (hHeld.2.1), pw_cell_below HB58.out (hHeld.2.2.1), pw_cell_below HB58.out (hHeld.2.2.2)⟩ (fun hHeld => ?_)
      clear hK K
      refine norm_ (a' := ?_) ?_ ?_
      rotate_left
      · show Act.put _ (some 83) _ = _
        simp only [Act.put, List.setIfInBounds_toArray, List.set_cons_zero, List.set_cons_succ, i64_w, i32_w]
        rfl
      refine one_ (i := 4) (N := some 85) #[true, true, true, true, true, false] rfl rfl (by kernel_rfl) (by decide) (fun K hK => ?_)
      refine goes_ Try.func54 (by kernel_rfl) rfl #[.agg #[.slice Ae co'.length ce, .slice Af cn'.length cf_], .agg #[.slice Ap co'.length cp, .slice Aq cn'.length cq]] (by rfl) rfl rfl (by simp only [List.map_toArray, List.map_cons, List.map_nil]; rfl) ?_
      with_reducible refine (synodalref8_Same.calls 3000 Ae ce co' Af cf_ cn' Ap cp co' Aq cq cn' true _ HRE.out.2 HRE.out.1 HRF2.out.2 HRF2.out.1 (Kd.C_below HCp.out.2 HB58.out) HCp.out.1 (Kd.C_below HCq.out.2 HB58.out) HCq.out.1 (CP.rSame_f co' cn' (by have h9 : co'.length ≤ 1000 := HCLE.out.1; omega) (by have h9 : cn'.length ≤ 1000 := HCLE.out.2; omega) 3000 (by have h9 : co'.length ≤ 1000 := HCLE.out.1; have h8 : cn'.length ≤ 1000 := HCLE.out.2; omega))).mono ?_
      rintro e_ w59 ⟨rfl, hb_⟩
      refine ⟨_, rfl, ?_⟩
      have HB59 := Aside0.mk (below_then HBD.out HBD.out.size (below_then HB58.out HB58.out.size hb_))
      have HBL := Aside0.mk hb_
      clear hb_
      refine hK.out _ _ ⟨pw_cell_below HBL.out (hHeld.1), pw_cell_below HBL.out (hHeld.2.1), pw_cell_below HBL.out (hHeld.2.2.1), pw_cell_below HBL.out (hHeld.2.2.2)⟩ (fun hHeld => ?_)
      clear hK K
      refine norm_ (a' := ?_) ?_ ?_
      rotate_left
      · show Act.put _ (some 85) _ = _
        simp only [Act.put, List.setIfInBounds_toArray, List.set_cons_zero, List.set_cons_succ, i64_w, i32_w]
        rfl
      refine pure_ (i := 5) (N := some 86) (v := ?_) (a' := ?_) #[true, true, true, true, true, true] rfl rfl (by kernel_rfl) (fun _ _ _ h => h) (Or.inl ⟨by rfl, ?_⟩) ?_ ?_
      rotate_left
      · intro w'
        go_simp
        with_reducible rfl
      rotate_left
      · simp only [Act.put, List.setIfInBounds_toArray, List.set_cons_zero, List.set_cons_succ, i64_w, i32_w]
        rfl
      refine done_ (by kernel_rfl) ?_
      clear hHeld
      go_wp2
      case roundEnd =>
        refine ⟨⟨i + 1, F7, l ++ [⟨1, (⟨kd, 0, 0, ⟨#[]⟩, ms, 0⟩ : S77)⟩], co', cn', by first | rfl | (rw [hwi]; rfl), hli, hlt, ⟨by rw [List.length_append, HLN.out]; rfl⟩, ⟨HLc.out.below HB59.out⟩, ⟨HCc.out.below HB59.out⟩, ⟨HWc.out.below HB59.out⟩, ⟨fun y hy => ?_⟩, HCFc⟩, meas_step hlt (by first | rfl | exact hwi)⟩
        rcases List.mem_append.1 hy with hy | hy
        · exact HY.out y hy
        · simp only [List.mem_singleton] at hy; subst hy; exact ⟨rfl, HM7.out⟩

end Go.Proofs.Ytbomomaidglegaa.Hist
