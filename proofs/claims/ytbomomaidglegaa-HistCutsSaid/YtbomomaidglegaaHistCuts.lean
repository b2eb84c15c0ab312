/- HistCuts: what is put where another term stands cuts off all from there on, nothing ahead. -/
import Derived.Test.YtbomomaidglegaaHistSame
import Derived.Deep.LoopGhost
import Derived.WalkSpells
namespace Go.Proofs.Ytbomomaidglegaa.Hist
open Go Go.RowKit Go.Proofs.Ytbomomaidglegaa.XHist Go.Proofs.YtbomomaidglegaaW.PrintWords Go.Proofs.YtbomomaidglegaaW.PrintLast Go.Proofs.YtbomomaidglegaaW.PrintMore
set_option linter.unusedVariables false
set_option linter.unusedSimpArgs false


/-- A row that lies outside of what F holds stays outside behind a writer. -/
theorem R_apart {α : Type} {d : Kd α} {e B : Nat} {W W' : World} {v : Value} {xs : List α} {F F' : Nat → Prop} (h : d.R e W B (fun q => ¬ F q) v xs) (hk : Kept F W W') (hF : ∀ q, F' q → F q ∨ W.heap.size ≤ q) : d.R e W' B (fun q => ¬ F' q) v xs :=
  Kd.R_mono (R_kept_ (Kd.R_mono (Kd.R_bound h) (ok' := fun q => ¬ F q ∧ q < W.heap.size) (fun q hq => ⟨hq.1, hq.2.2.1⟩)) hk (fun q hq => hq.1)) (fun q hq hf => by rcases hF q hf with hf | hf; exact hq.1 hf; have := hq.2; omega)
theorem R_out {α : Type} {d : Kd α} {e B : Nat} {W : World} {v : Value} {xs : List α} {F : Nat → Prop} (h : d.R e W B (fun _ => True) v xs) (hF : ∀ q, F q → q < B) : d.R e W B (fun q => ¬ F q) v xs :=
  Kd.R_mono (Kd.R_bound h) (fun q hq hf => by have := hF q hf; have := hq.2.1; omega)
theorem R_out_below {α : Type} {d : Kd α} {e B : Nat} {W W' : World} {v : Value} {xs : List α} {F : Nat → Prop} (h : d.R e W B (fun q => ¬ F q) v xs) (hb : Below W.heap.size W W') : d.R e W' B (fun q => ¬ F q) v xs := Kd.R_below h hb

theorem h2old {W wd : World} {o1 o2 : Obj} (h : W.heap = (wd.heap.push o1).push o2) : W.heap[wd.heap.size]? = some o1 := by
  rw [h, Array.getElem?_push_lt (by simp)]
  simp
theorem h2new {W wd : World} {o1 o2 : Obj} (h : W.heap = (wd.heap.push o1).push o2) : W.heap[wd.heap.size + 1]? = some o2 := by
  rw [h, show wd.heap.size + 1 = (wd.heap.push o1).size by simp]
  exact Array.getElem?_push_size

theorem cut_pre {P : Program} (t e : TypeId) {z : Option Value} {s y : Nat} (ht : P.underlying t = some (.slice e)) (hinfo : (P.info? e).map (fun i => (i.zero, i.size, i.bytes)) = some (z, s, y)) (A : Option Addr) (n c j : Nat) (hm : j ≤ n) (hc : n ≤ c) :
    ∀ W : World, (Instr.slice t (.slice A n c) none (some (.int .i64 (j : Int))) none).run P W = .ok (.slice A j c) W := by
  obtain ⟨i, hi, _⟩ := Option.map_eq_some_iff.1 hinfo
  have := cut_to (P := P) t e .i64 ht hi A n c (j : Int) (by omega) (by omega) hc
  simpa using this

theorem put_none (l : List S105) (v mk tp : Int) (e : S77) (hm : tm 0 l v = mk) (hv : 0 < v) (h1 : 1 ≤ tp) (h2 : mk + 1 ≤ tp) (hl : v ≤ (l.length : Int)) : putF 0 l v (mk + 1) [tp] [e] = (0, 2, l) := by
  unfold putF
  have hr : rise (mk + 1) [tp] = true := by simp only [rise]; rw [if_neg (by omega)]
  rw [if_neg (by rw [hr]; simp; omega), if_pos (.inr ⟨hv, by rw [hm]; omega⟩)]
theorem put_cut (l : List S105) (vn : Nat) (mk tl tp : Int) (e : S77) (hm : tm 0 l (vn : Int) = mk) (hl : vn < l.length) (h64 : (l.length : Int) ≤ 40) (hmk : mk ≤ tp) (h1 : 1 ≤ tp) (hall : ∀ x ∈ l, x.f0 ≤ tl) (htp : tl < tp) :
    putF 0 l (vn : Int) mk [tp] [e] = ((vn : Int) + 1, 0, l.take vn ++ [(⟨tp, e⟩ : S105)]) := by
  unfold putF
  have hr : rise mk [tp] = true := by simp only [rise]; rw [if_neg (by omega)]
  rw [if_neg (by rw [hr]; simp), if_neg (by rw [hm]; simp; omega), if_neg (by simp; omega)]
  have hne : ¬ tm 0 l ((vn : Int) + 1 + ((0 : Nat) : Int)) = rd [tp] ((0 : Nat) : Int) := by
    have h2 := tm_in 0 l vn hl
    rw [show (vn : Int) + 1 + ((0 : Nat) : Int) = 0 + 1 + (vn : Int) by omega, h2]
    have h3 := hall _ (List.getElem_mem hl)
    simp [rd]
    omega
  have hp1 : putTo 0 (vn : Int) l [tp] [e] 1 = l.take vn ++ [(⟨tp, e⟩ : S105)] := by
    show (if tm 0 l ((vn : Int) + 1 + ((0 : Nat) : Int)) = rd [tp] ((0 : Nat) : Int) then l else l.take ((vn : Int) + ((0 : Nat) : Int) - 0).toNat ++ [(⟨rd [tp] ((0 : Nat) : Int), rd_T77 [e] ((0 : Nat) : Int)⟩ : S105)]) = _
    rw [if_neg hne]
    simp [rd, rd_T77]
  simp only [List.length_singleton, hp1]
  rfl

set_option maxHeartbeats 16000000 in
set_option maxRecDepth 100000 in
theorem HistCuts_walk (A0 : Option Addr) (c0 : Nat) (l0 : List Int) (a1 a2 : Int) (w : World)
    (hC0 : Kd.C (Kd.int .i64) w A0 l0.length l0) (_hc0 : l0.length ≤ c0) (_hm0 : l0.length ≤ maxLen) (_ho0 : ∀ a ∈ l0, (Lit.int .i64 a).wf = true) (_w1 : (Lit.int .i64 a1).wf = true) (_w2 : (Lit.int .i64 a2).wf = true) :
    Calls Try.prog 12 #[.slice A0 l0.length c0, .int .i64 a1, .int .i64 a2] w fun e w' => e = .returned (.bool true) ∧ Below w.heap.size w w' := by
  have HC0 := Aside0.mk hC0
  clear hC0 _hc0 _hm0 _ho0 _w1 _w2
  have hu77 := Try.underlying77
  go_enter Try.func12, Try.ntmps12
  go_upto_region 6 with (first
    | (go_at_call 29; refine (known_calls _).mono ?_; rintro e_ w1 ⟨rfl, hb1⟩; have HB1 := Aside0.mk hb1; clear hb1)
    | (go_at_call 38; refine (grown_calls w1 A0 c0 l0 (Kd.C_below HC0.out HB1.out)).mono ?_; rintro e_ w2 ⟨g, F, l, t, rfl, hl_, _, hg_, ht1, ht2, hll⟩; have HL2 := Aside0.mk (hl_.lower HB1.out); have HG := Aside0.mk hg_; clear hl_ hg_))
  have HI2 := Aside0.mk HL2.out.1
  by_cases hz : l.length = 0
  · have d1 : ((l.length : Int) == 0) = true := beq_iff_eq.mpr (by omega)
    go_wp2_with (first | (go_at_call 35; refine (last0 HI2.out).mono ?_; rintro e_ w' ⟨rfl, ⟨n_, rfl⟩⟩))
    go_ret
    exact ⟨rfl, pw_below_drewN HL2.out.2.2 _⟩
  have d1 : ((l.length : Int) == 0) = false := beq_eq_false_iff_ne.mpr (by omega)
  have HMM := Aside0.mk (show ∀ x ∈ l, x.f1.f4.length < 17592186044416 from fun x hx => by
    obtain ⟨j, hj, rfl⟩ := List.mem_iff_getElem.1 hx
    rw [HG.out.2.2 j hj]
    simp)
  obtain ⟨p, hp⟩ : ∃ p, l.length = p + 1 := ⟨l.length - 1, by omega⟩
  have HP := Aside0.mk hp
  have hpl : p < l.length := by rw [hp]; exact Nat.lt_succ_self p
  clear hp HB1
  go_upto_region 10 with (first
    | (go_at_call 35; refine (last0 (B := w.heap.size) (F := F) (l := l) ?hI).mono ?_; (case hI => (with_reducible repeat (first | exact HI2.out | refine IsH.drewN ?_ _))); rintro e_ w' ⟨rfl, ⟨n_, rfl⟩⟩)
    | (go_at_call 42; refine (from_calls (B := w.heap.size) (F := F) (b := 0) (l := l) ?hI HMM.out 1 (by omega) (by omega)).mono ?_; (case hI => (with_reducible repeat (first | exact HI2.out | refine IsH.drewN ?_ _))); rintro e_ w3 ⟨A1, c1, A2, c2, ts, es, rfl, ht_, he_, hb_, hts, hes⟩; have HTR := Aside0.mk (R_out ht_ (fun q hq => HL2.out.lt q hq)); have HER := Aside0.mk (R_out he_ (fun q hq => HL2.out.lt q hq)); have HL3 := Aside0.mk ((HL2.out.drewN _).below hb_); have HTS := Aside0.mk hts; have HES := Aside0.mk hes; clear ht_ he_ hb_ hts hes HI2; have HI2 := Aside0.mk HL3.out.1)
    | (go_at_call 34; refine (within_calls a1 (l.length : Int) _ (by omega) (by omega)).mono ?_; rintro e_ w' ⟨v, rfl, ⟨n_, rfl⟩, hv0, hv1⟩))
  have HT1 : Aside0 (ts = l.map (·.f0)) := ⟨by rw [HTS.out, show fromIx 0 l 1 = 0 by unfold fromIx; simp]; rfl⟩
  have HE1 : Aside0 (es = l.map (·.f1)) := ⟨by rw [HES.out, show fromIx 0 l 1 = 0 by unfold fromIx; simp]; rfl⟩
  have htl : ts.length = p + 1 := by rw [HT1.out, List.length_map]; exact HP.out
  have hel : es.length = p + 1 := by rw [HE1.out, List.length_map]; exact HP.out
  have htm : ∃ tl, tl = (l[p]'hpl).f0 := ⟨_, rfl⟩
  obtain ⟨tl, htl0⟩ := htm
  have htl1 : 1 ≤ tl := by rw [htl0]; exact HG.out.1.2 _ (List.getElem_mem _)
  have htl2 : tl ≤ 100 := by rw [htl0]; exact Int.le_trans (HG.out.2.1 _ (List.getElem_mem _)) ht2
  have HTL := Aside0.mk htl0
  obtain ⟨ad, rfl, hx0⟩ := Kd.at_int (Kd.R_reads' HTR.out).2.2 (p : Int) (by omega) (by omega)
  have hrd : rd ts (p : Int) = tl := by
    rw [rd_at_ ts p (by omega), htl0]
    simp [HT1.out]
  rw [Int.toNat_natCast, hrd] at hx0
  generalize hwx : World.drewN w3 _ = wx
  have hbx : Below w3.heap.size w3 wx := by rw [← hwx]; exact pw_below_drewN (Below.refl _ _) _
  have HBX := Aside0.mk (below_drew hbx)
  have HTC := Aside0.mk (pw_cell_below HBX.out hx0)
  have hp40 : p ≤ 40 := by have := HP.out; omega
  have hwp : wrap64 (p : Int) = (p : Int) := by unfold wrap64; omega
  have hqa := eq_true (show 0 ≤ (p : Int) by omega)
  have hqb := eq_true (show (p : Int) < (p : Int) + 1 by omega)
  have hqc := eq_true (show p < p + 1 by omega)
  clear hbx hwx hx0 hrd htl0 HTS HES
  refine start_ (n := 11) (S := fun w' => w'.cell? (ad.add p) = some (Value.int .i64 tl)) (ds := []) #[false, false, false, false, false, false, false, false, false, false, false] (by kernel_rfl) rfl rfl (HTC.out) (fun hHeld => ?_)
  generalize wx.drew = wd at HBX HTC hHeld ⊢
  refine pure_ (i := 0) (N := some 38) (v := ?_) (a' := ?_) #[true, false, false, false, false, false, false, false, false, false, false] rfl rfl (by kernel_rfl) (fun _ _ _ h => h) (Or.inl ⟨by rfl, ?_⟩) ?_ ?_
  rotate_left
  · intro w'
    go_simp
    with_reducible rfl
  rotate_left
  · simp only [Act.put, List.setIfInBounds_toArray, List.set_cons_zero, List.set_cons_succ, i64_w, i32_w]
    rfl
  refine pure_ (i := 1) (N := some 39) (v := ?_) (a' := ?_) #[true, true, false, false, false, false, false, false, false, false, false] rfl rfl (by kernel_rfl) (fun _ _ _ h => h) (Or.inl ⟨by rfl, ?_⟩) ?_ ?_
  rotate_left
  · intro w'
    go_simp
    with_reducible rfl
  rotate_left
  · simp only [Act.put, List.setIfInBounds_toArray, List.set_cons_zero, List.set_cons_succ, i64_w, i32_w]
    rfl
  refine pure_ (i := 2) (N := some 40) (v := ?_) (a' := ?_) #[true, true, true, false, false, false, false, false, false, false, false] rfl rfl (by kernel_rfl) (fun _ _ _ h => h) (Or.inl ⟨by rfl, ?_⟩) ?_ ?_
  rotate_left
  · intro w'
    go_simp
    with_reducible rfl
  rotate_left
  · simp only [Act.put, List.setIfInBounds_toArray, List.set_cons_zero, List.set_cons_succ, i64_w, i32_w]
    rfl
  refine pure_ (i := 3) (N := some 41) (v := ?_) (a' := ?_) #[true, true, true, true, false, false, false, false, false, false, false] rfl rfl (by kernel_rfl) (fun _ _ _ h => h) (Or.inl ⟨by rfl, ?_⟩) ?_ ?_
  rotate_left
  · intro w'
    go_simp
    with_reducible rfl
  rotate_left
  · simp only [Act.put, List.setIfInBounds_toArray, List.set_cons_zero, List.set_cons_succ, i64_w, i32_w]
    rfl
  refine pure_ (i := 4) (N := some 42) (v := ?_) (a' := ?_) #[true, true, true, true, true, false, false, false, false, false, false] rfl rfl (by kernel_rfl) (fun _ _ _ h => h) (Or.inl ⟨by rfl, ?_⟩) ?_ ?_
  rotate_left
  · intro w'
    go_simp
    with_reducible rfl
  rotate_left
  · simp only [Act.put, List.setIfInBounds_toArray, List.set_cons_zero, List.set_cons_succ, i64_w, i32_w]
    rfl
  refine pure_ (i := 7) (N := some 45) (v := ?_) (a' := ?_) #[true, true, true, true, true, false, false, true, false, false, false] rfl rfl (by kernel_rfl) (fun _ _ _ h => h) (Or.inl ⟨by rfl, ?_⟩) ?_ ?_
  rotate_left
  · intro w'
    go_simp
    with_reducible rfl
  rotate_left
  · simp only [Act.put, List.setIfInBounds_toArray, List.set_cons_zero, List.set_cons_succ, i64_w, i32_w]
    rfl
  refine take_ (i := 5) (N := some 43) (v := ?_) (a' := ?_) #[true, true, true, true, true, true, false, true, false, false, false] rfl rfl (by kernel_rfl) (fun _ _ _ h => h) (Or.inl ⟨by rfl, ?_⟩) hHeld ?_ ?_
  rotate_left
  · intro w' s0
    go_simp
    with_reducible rfl
  rotate_left
  · simp only [Act.put, List.setIfInBounds_toArray, List.set_cons_zero, List.set_cons_succ, i64_w, i32_w]
    rfl
  refine pure_ (i := 6) (N := some 44) (v := ?_) (a' := ?_) #[true, true, true, true, true, true, true, true, false, false, false] rfl rfl (by kernel_rfl) (fun _ _ _ h => h) (Or.inl ⟨by rfl, ?_⟩) ?_ ?_
  rotate_left
  · intro w'
    go_simp
    with_reducible rfl
  rotate_left
  · simp only [Act.put, List.setIfInBounds_toArray, List.set_cons_zero, List.set_cons_succ, i64_w, i32_w]
    rfl
  refine one_ (i := 8) (N := some 46) #[true, true, true, true, true, true, true, true, true, false, false] rfl rfl (by kernel_rfl) (by decide) (fun K hK => ?_)
  refine goes_ Try.func34 (by kernel_rfl) rfl #[.int .i64 a2, .int .i64 5] (by rfl) rfl rfl (by simp only [List.map_toArray, List.map_cons, List.map_nil]; rfl) ?_
  with_reducible refine (within_calls a2 5 _ (by omega) (by omega)).mono ?_
  rintro e_ w5 ⟨v2, rfl, ⟨n5, rfl⟩, hv20, hv21⟩
  refine ⟨_, rfl, ?_⟩
  refine hK.out _ _ (pw_cell_below (pw_below_drewN (Below.refl _ _) _) hHeld) (fun hHeld => ?_)
  clear hK K
  refine norm_ (a' := ?_) ?_ ?_
  rotate_left
  · show Act.put _ (some 46) _ = _
    simp only [Act.put, List.setIfInBounds_toArray, List.set_cons_zero, List.set_cons_succ, i64_w, i32_w]
    rfl
  refine pure_ (i := 9) (N := some 47) (v := ?_) (a' := ?_) #[true, true, true, true, true, true, true, true, true, true, false] rfl rfl (by kernel_rfl) (fun _ _ _ h => h) (Or.inl ⟨by rfl, ?_⟩) ?_ ?_
  rotate_left
  · intro w'
    go_simp
    with_reducible rfl
  rotate_left
  · simp only [Act.put, List.setIfInBounds_toArray, List.set_cons_zero, List.set_cons_succ, i64_w, i32_w]
    rfl
  refine pure_ (i := 10) (N := some 10) (v := ?_) (a' := ?_) #[true, true, true, true, true, true, true, true, true, true, true] rfl rfl (by kernel_rfl) (fun _ _ _ h => h) (Or.inl ⟨by rfl, ?_⟩) ?_ ?_
  rotate_left
  · intro w'
    go_simp
    with_reducible rfl
  rotate_left
  · simp only [Act.put, List.setIfInBounds_toArray, List.set_cons_zero, List.set_cons_succ, i64_w, i32_w]
    rfl
  refine done_ (by kernel_rfl) ?_
  have HBZ := Aside0.mk (below_then HBX.out HBX.out.size (pw_below_drewN (Below.refl _ _) n5))
  generalize wd.drewN n5 = wz at HBZ ⊢
  have HLY := Aside0.mk (HL3.out.below HBZ.out)
  have HTY := Aside0.mk (R_out_below HTR.out HBZ.out)
  have HEY := Aside0.mk (R_out_below HER.out HBZ.out)
  have HLT := Aside0.mk (fun q (hq : F q) => Nat.lt_of_lt_of_le (HL3.out.lt q hq) HBZ.out.size)
  rw [show wrap64 (wrap64 (tl + 1) + v2) = tl + 1 + v2 by unfold wrap64; omega]
  clear HTC HTR HER HL3 HI2 HBX hHeld hwp hqa hqb hqc HL2 HBZ
  go_upto_region 12 with (fail)
  generalize hwy : World.alloc wz _ = wy
  have hby : Below wz.heap.size wz wy := by rw [← hwy]; exact below_alloc (Below.refl _ _) _
  have hbe : wy.heap[wz.heap.size]? = some (.cells #[.int .i64 1, .int .i64 9, .int .i64 9, .string ⟨#[]⟩, .slice none 0 0, .int .i64 0] 77 (0, 0)) := by rw [← hwy]; exact heap_alloc_new _ _
  obtain ⟨ge, hge⟩ : ∃ ge, wz.heap.size = ge := ⟨_, rfl⟩
  rw [hge] at hbe ⊢
  have HL := Aside0.mk (HLY.out.below hby)
  have HT := Aside0.mk (R_out_below HTY.out hby)
  have HE := Aside0.mk (R_out_below HEY.out hby)
  have BE := Aside0.mk hbe
  have HNE := Aside0.mk (show ¬ F ge from fun hf => by have := HLT.out ge hf; omega)
  clear hby hbe hwy HLY HTY HEY HLT hge
  obtain ⟨tp, htp⟩ : ∃ tp, tl + 1 + v2 = tp := ⟨_, rfl⟩
  have htp1 : tl < tp := by omega
  have htp2 : tp ≤ 106 := by omega
  rw [htp]
  clear htp
  have hlp : (l.length : Int) = (p : Int) + 1 := by have := HP.out; omega
  obtain ⟨vn, rfl⟩ := Int.eq_ofNat_of_zero_le hv0
  have HALL := Aside0.mk (show ∀ x ∈ l, x.f0 ≤ tl from fun x hx => by
    have h2 := up_last (b := 0) HG.out.1 x hx
    rw [show (0 : Int) + (l.length : Int) = 0 + 1 + (p : Int) by omega, tm_in 0 l p (by omega)] at h2
    have h3 := HTL.out
    omega)
  have hvn : vn < l.length := by omega
  obtain ⟨mk, hmk⟩ : ∃ m, tm 0 l (vn : Int) = m := ⟨_, rfl⟩
  have hmk0 : 0 ≤ mk ∧ mk ≤ tl := by
    rw [← hmk]
    rcases tm_case 0 l (vn : Int) with h0 | ⟨x, hx, h0⟩
    · omega
    · have h1 := HG.out.1.2 x hx
      have h2 := up_last (b := 0) HG.out.1 x hx
      rw [show (0 : Int) + (l.length : Int) = 0 + 1 + (p : Int) by omega, tm_in 0 l p (by omega)] at h2
      have h3 := HTL.out
      omega
  have HMK := Aside0.mk hmk
  have hmk1 := hmk0.1
  have hmk2 := hmk0.2
  clear hmk hmk0
  have HTLn := Aside0.mk htl
  have HELn := Aside0.mk hel
  clear htl hel
  go_upto_if 50 with (fail)
  go_cut [] (fun wc => ∃ (F6 : Nat → Prop) (BT BE_ : Nat), Aside0 (Live w wc g F6 0 l) ∧ Aside0 (Kd.R (Kd.int .i64) 3 wc BT (fun q => ¬ F6 q) (.slice (some ad) ts.length c1) ts) ∧ Aside0 (Kd.R k77 77 wc BE_ (fun q => ¬ F6 q) (.slice A2 es.length c2) es) ∧ Aside0 (wc.heap[ge]? = some (.cells #[.int .i64 1, .int .i64 9, .int .i64 9, .string ⟨#[]⟩, .slice none 0 0, .int .i64 0] 77 (0, 0))) ∧ Aside0 (¬ F6 ge))
  case first =>
   by_cases hv : 0 < (vn : Int)
   · have dv : decide (0 < (vn : Int)) = true := decide_eq_true hv
     have dv2 : decide (0 < vn) = true := decide_eq_true (by omega)
     have HPN := Aside0.mk (put_none l (vn : Int) mk (tp + 1) (⟨1, 9, 9, ⟨#[]⟩, [], 0⟩ : S77) HMK.out hv (by omega) (by omega) (by omega))
     have HI := Aside0.mk HL.out.1
     go_upto_region 13 with (fail)
     have HLD := Aside0.mk HL.out.drew
     have HID := Aside0.mk HL.out.drew.1
     have BED := Aside0.mk (show wy.drew.heap[ge]? = _ from BE.out)
     have HLT2 := Aside0.mk (show ∀ q, F q → q < wy.drew.heap.size from HL.out.lt)
     have HYD := Aside0.mk (show Below wy.heap.size wy wy.drew from below_drew (Below.refl _ _))
     refine start_ (n := 17) (S := fun w' => w'.cell? ⟨ge, 0, none⟩ = some (Value.int .i64 1) ∧ w'.cell? ⟨ge, 1, none⟩ = some (Value.int .i64 9) ∧ w'.cell? ⟨ge, 2, none⟩ = some (Value.int .i64 9) ∧ w'.cell? ⟨ge, 3, none⟩ = some (Value.string ⟨#[]⟩) ∧ w'.cell? ⟨ge, 4, none⟩ = some (Value.slice none 0 0) ∧ w'.cell? ⟨ge, 5, none⟩ = some (Value.int .i64 0)) (ds := [11]) #[false, false, false, false, false, false, false, false, false, false, false, false, false, false, false, false, false] (by kernel_rfl) rfl rfl ⟨(blk_cell BE.out 0).trans rfl, (blk_cell BE.out 1).trans rfl, (blk_cell BE.out 2).trans rfl, (blk_cell BE.out 3).trans rfl, (blk_cell BE.out 4).trans rfl, (blk_cell BE.out 5).trans rfl⟩ (fun hHeld => ?_)
     have HHD := Aside0.mk hHeld
     generalize wy.drew = wd at HLD HID BED HLT2 HYD HHD hHeld ⊢
     refine pure_ (i := 0) (N := some 52) (v := ?_) (a' := ?_) #[true, false, false, false, false, false, false, false, false, false, false, false, false, false, false, false, false] rfl rfl (by kernel_rfl) (fun _ _ _ h => h) (Or.inl ⟨by rfl, ?_⟩) ?_ ?_
     rotate_left
     · intro w'
       go_simp
       with_reducible rfl
     rotate_left
     · simp only [Act.put, List.setIfInBounds_toArray, List.set_cons_zero, List.set_cons_succ, i64_w, i32_w]
       rfl
     refine pure_ (i := 1) (N := some 53) (v := ?_) (a' := ?_) #[true, true, false, false, false, false, false, false, false, false, false, false, false, false, false, false, false] rfl rfl (by kernel_rfl) (fun _ _ _ h => h) (Or.inl ⟨by rfl, ?_⟩) ?_ ?_
     rotate_left
     · intro w'
       go_simp
       with_reducible rfl
     rotate_left
     · simp only [Act.put, List.setIfInBounds_toArray, List.set_cons_zero, List.set_cons_succ, i64_w, i32_w]
       rfl
     refine pure_ (i := 2) (N := some 54) (v := ?_) (a' := ?_) #[true, true, true, false, false, false, false, false, false, false, false, false, false, false, false, false, false] rfl rfl (by kernel_rfl) (fun _ _ _ h => h) (Or.inl ⟨by rfl, ?_⟩) ?_ ?_
     rotate_left
     · intro w'
       go_simp
       with_reducible rfl
     rotate_left
     · simp only [Act.put, List.setIfInBounds_toArray, List.set_cons_zero, List.set_cons_succ, i64_w, i32_w]
       rfl
     refine pure_ (i := 3) (N := some 55) (v := ?_) (a' := ?_) #[true, true, true, true, false, false, false, false, false, false, false, false, false, false, false, false, false] rfl rfl (by kernel_rfl) (fun _ _ _ h => h) (Or.inl ⟨by rfl, ?_⟩) ?_ ?_
     rotate_left
     · intro w'
       go_simp
       with_reducible rfl
     rotate_left
     · simp only [Act.put, List.setIfInBounds_toArray, List.set_cons_zero, List.set_cons_succ, i64_w, i32_w]
       rfl
     refine pure_ (i := 6) (N := some 58) (v := ?_) (a' := ?_) #[true, true, true, true, false, false, true, false, false, false, false, false, false, false, false, false, false] rfl rfl (by kernel_rfl) (fun _ _ _ h => h) (Or.inl ⟨by rfl, ?_⟩) ?_ ?_
     rotate_left
     · intro w'
       go_simp
       with_reducible rfl
     rotate_left
     · simp only [Act.put, List.setIfInBounds_toArray, List.set_cons_zero, List.set_cons_succ, i64_w, i32_w]
       rfl
     refine pure_ (i := 7) (N := some 59) (v := ?_) (a' := ?_) #[true, true, true, true, false, false, true, true, false, false, false, false, false, false, false, false, false] rfl rfl (by kernel_rfl) (fun _ _ _ h => h) (Or.inl ⟨by rfl, ?_⟩) ?_ ?_
     rotate_left
     · intro w'
       go_simp
       with_reducible rfl
     rotate_left
     · simp only [Act.put, List.setIfInBounds_toArray, List.set_cons_zero, List.set_cons_succ, i64_w, i32_w]
       rfl
     refine take_ (i := 9) (N := some 61) (v := ?_) (a' := ?_) #[true, true, true, true, false, false, true, true, false, true, false, false, false, false, false, false, false] rfl rfl (by kernel_rfl) (fun _ _ _ h => h) (Or.inl ⟨by rfl, ?_⟩) hHeld ?_ ?_
     rotate_left
     · rintro w' ⟨s0, s1, s2, s3, s4, s5⟩
       go_simp
       with_reducible rfl
     rotate_left
     · simp only [Act.put, List.setIfInBounds_toArray, List.set_cons_zero, List.set_cons_succ, i64_w, i32_w]
       rfl
     refine join_ (σ := Nat × Nat) 6 #[true, true, true, true, true, true, true, true, true, true, true, false, false, false, false, false, false] (fun s => [(56, Value.int .i64 mk), (57, Value.int .i64 (wrap64 (mk + 1))), (60, Value.slice (some ⟨s.1, 0, none⟩) 1 1), (62, Value.slice (some ⟨s.2, 0, none⟩) 1 1)]) (fun s w' => Below wd.heap.size wd w' ∧ w'.heap[s.1]? = some (.cells #[.int .i64 (wrap64 (tp + 1))] 3 (0, 0)) ∧ w'.heap[s.2]? = some (.cells #[.int .i64 1, .int .i64 9, .int .i64 9, .string ⟨#[]⟩, .slice none 0 0, .int .i64 0] 77 (0, 0)) ∧ wd.heap.size ≤ s.1 ∧ wd.heap.size ≤ s.2) ?_ ?_
     rotate_left
     · intro hCont
       refine three_ (i := 4) (j := 8) (k := 10) (Ni := some 56) (Nj := some 60) (Nk := some 62) #[true, true, true, true, true, false, true, true, false, true, false, false, false, false, false, false, false] #[true, true, true, true, false, false, true, true, true, true, false, false, false, false, false, false, false] #[true, true, true, true, false, false, true, true, false, true, true, false, false, false, false, false, false] rfl rfl rfl rfl rfl rfl (by kernel_rfl) (by decide) (by decide) (by decide) (fun K hK => ?_) (fun K hK => ?_) (fun K hK => ?_)
       · skip
         refine goes_ Try.func36 (by kernel_rfl) rfl #[.pointer (some ⟨g, 0, none⟩), .int .i64 (vn : Int)] (by rfl) rfl rfl (by simp only [List.map_toArray, List.map_cons, List.map_nil]; rfl) ?_
         with_reducible refine (term_quiet (B := w.heap.size) (F := F) (b := 0) (l := l) (HID.out.below (by repeat (first | exact Below.refl _ _ | apply below_alloc | apply pw_below_drewN))) _ mk HMK.out).mono ?_
         rintro e_ w' ⟨rfl, n3, rfl⟩
         refine ⟨_, rfl, ?_⟩
         refine hK.out _ _ ⟨pw_cell_below (pw_below_drewN (Below.refl _ _) _) (hHeld.1), pw_cell_below (pw_below_drewN (Below.refl _ _) _) (hHeld.2.1), pw_cell_below (pw_below_drewN (Below.refl _ _) _) (hHeld.2.2.1), pw_cell_below (pw_below_drewN (Below.refl _ _) _) (hHeld.2.2.2.1), pw_cell_below (pw_below_drewN (Below.refl _ _) _) (hHeld.2.2.2.2.1), pw_cell_below (pw_below_drewN (Below.refl _ _) _) (hHeld.2.2.2.2.2)⟩ (fun hHeld => ?_)
         clear hK K
         refine norm_ (a' := ?_) ?_ ?_
         rotate_left
         · show Act.put _ (some 56) _ = _
           simp only [Act.put, List.setIfInBounds_toArray, List.set_cons_zero, List.set_cons_succ, i64_w, i32_w]
           rfl
         refine pure_ (i := 5) (N := some 57) (v := ?_) (a' := ?_) #[true, true, true, true, true, true, true, true, false, true, false, false, false, false, false, false, false] rfl rfl (by kernel_rfl) (fun _ _ _ h => h) (Or.inl ⟨by rfl, ?_⟩) ?_ ?_
         rotate_left
         · intro w'
           go_simp
           with_reducible rfl
         rotate_left
         · simp only [Act.put, List.setIfInBounds_toArray, List.set_cons_zero, List.set_cons_succ, i64_w, i32_w]
           rfl
         refine two_ (i := 8) (j := 10) (Ni := some 60) (Nj := some 62) #[true, true, true, true, true, true, true, true, true, true, false, false, false, false, false, false, false] #[true, true, true, true, true, true, true, true, false, true, true, false, false, false, false, false, false] rfl rfl rfl rfl (by kernel_rfl) (by decide) (by decide) (fun K hK => ?_) (fun K hK => ?_)
         · skip
           refine value_ (w1 := ?_) (v := ?_) (by rfl) rfl ?_ ?_
           rotate_left 2
           · go_simp
             constructor
             · rfl
             · rfl
           refine hK.out _ _ ⟨pw_cell_below (below_alloc (Below.refl _ _) _) (hHeld.1), pw_cell_below (below_alloc (Below.refl _ _) _) (hHeld.2.1), pw_cell_below (below_alloc (Below.refl _ _) _) (hHeld.2.2.1), pw_cell_below (below_alloc (Below.refl _ _) _) (hHeld.2.2.2.1), pw_cell_below (below_alloc (Below.refl _ _) _) (hHeld.2.2.2.2.1), pw_cell_below (below_alloc (Below.refl _ _) _) (hHeld.2.2.2.2.2)⟩ (fun hHeld => ?_)
           clear hK K
           refine norm_ (a' := ?_) ?_ ?_
           rotate_left
           · show Act.put _ (some 60) _ = _
             simp only [Act.put, List.setIfInBounds_toArray, List.set_cons_zero, List.set_cons_succ, i64_w, i32_w]
             rfl
           refine one_ (i := 10) (N := some 62) #[true, true, true, true, true, true, true, true, true, true, true, false, false, false, false, false, false] rfl rfl (by kernel_rfl) (by decide) (fun K hK => ?_)
           refine value_ (w1 := ?_) (v := ?_) (by rfl) rfl ?_ ?_
           rotate_left 2
           · go_simp
             constructor
             · rfl
             · rfl
           refine hK.out _ _ ⟨pw_cell_below (below_alloc (Below.refl _ _) _) (hHeld.1), pw_cell_below (below_alloc (Below.refl _ _) _) (hHeld.2.1), pw_cell_below (below_alloc (Below.refl _ _) _) (hHeld.2.2.1), pw_cell_below (below_alloc (Below.refl _ _) _) (hHeld.2.2.2.1), pw_cell_below (below_alloc (Below.refl _ _) _) (hHeld.2.2.2.2.1), pw_cell_below (below_alloc (Below.refl _ _) _) (hHeld.2.2.2.2.2)⟩ (fun hHeld => ?_)
           clear hK K
           refine norm_ (a' := ?_) ?_ ?_
           rotate_left
           · show Act.put _ (some 62) _ = _
             simp only [Act.put, List.setIfInBounds_toArray, List.set_cons_zero, List.set_cons_succ, i64_w, i32_w]
             rfl
           exact norm_ (by simp only [putAll, Act.put, List.setIfInBounds_toArray, List.set_cons_zero, List.set_cons_succ]) (hCont (wd.heap.size, wd.heap.size + 1) _ ⟨(by repeat (first | exact Below.refl _ _ | apply below_alloc | apply pw_below_drewN)), h2old rfl, h2new rfl, Nat.le_refl _, Nat.le_succ _⟩)
         · skip
           refine value_ (w1 := ?_) (v := ?_) (by rfl) rfl ?_ ?_
           rotate_left 2
           · go_simp
             constructor
             · rfl
             · rfl
           refine hK.out _ _ ⟨pw_cell_below (below_alloc (Below.refl _ _) _) (hHeld.1), pw_cell_below (below_alloc (Below.refl _ _) _) (hHeld.2.1), pw_cell_below (below_alloc (Below.refl _ _) _) (hHeld.2.2.1), pw_cell_below (below_alloc (Below.refl _ _) _) (hHeld.2.2.2.1), pw_cell_below (below_alloc (Below.refl _ _) _) (hHeld.2.2.2.2.1), pw_cell_below (below_alloc (Below.refl _ _) _) (hHeld.2.2.2.2.2)⟩ (fun hHeld => ?_)
           clear hK K
           refine norm_ (a' := ?_) ?_ ?_
           rotate_left
           · show Act.put _ (some 62) _ = _
             simp only [Act.put, List.setIfInBounds_toArray, List.set_cons_zero, List.set_cons_succ, i64_w, i32_w]
             rfl
           refine one_ (i := 8) (N := some 60) #[true, true, true, true, true, true, true, true, true, true, true, false, false, false, false, false, false] rfl rfl (by kernel_rfl) (by decide) (fun K hK => ?_)
           refine value_ (w1 := ?_) (v := ?_) (by rfl) rfl ?_ ?_
           rotate_left 2
           · go_simp
             constructor
             · rfl
             · rfl
           refine hK.out _ _ ⟨pw_cell_below (below_alloc (Below.refl _ _) _) (hHeld.1), pw_cell_below (below_alloc (Below.refl _ _) _) (hHeld.2.1), pw_cell_below (below_alloc (Below.refl _ _) _) (hHeld.2.2.1), pw_cell_below (below_alloc (Below.refl _ _) _) (hHeld.2.2.2.1), pw_cell_below (below_alloc (Below.refl _ _) _) (hHeld.2.2.2.2.1), pw_cell_below (below_alloc (Below.refl _ _) _) (hHeld.2.2.2.2.2)⟩ (fun hHeld => ?_)
           clear hK K
           refine norm_ (a' := ?_) ?_ ?_
           rotate_left
           · show Act.put _ (some 60) _ = _
             simp only [Act.put, List.setIfInBounds_toArray, List.set_cons_zero, List.set_cons_succ, i64_w, i32_w]
             rfl
           exact norm_ (by simp only [putAll, Act.put, List.setIfInBounds_toArray, List.set_cons_zero, List.set_cons_succ]) (hCont (wd.heap.size + 1, wd.heap.size) _ ⟨(by repeat (first | exact Below.refl _ _ | apply below_alloc | apply pw_below_drewN)), h2new rfl, h2old rfl, Nat.le_succ _, Nat.le_refl _⟩)
       · skip
         refine value_ (w1 := ?_) (v := ?_) (by rfl) rfl ?_ ?_
         rotate_left 2
         · go_simp
           constructor
           · rfl
           · rfl
         refine hK.out _ _ ⟨pw_cell_below (below_alloc (Below.refl _ _) _) (hHeld.1), pw_cell_below (below_alloc (Below.refl _ _) _) (hHeld.2.1), pw_cell_below (below_alloc (Below.refl _ _) _) (hHeld.2.2.1), pw_cell_below (below_alloc (Below.refl _ _) _) (hHeld.2.2.2.1), pw_cell_below (below_alloc (Below.refl _ _) _) (hHeld.2.2.2.2.1), pw_cell_below (below_alloc (Below.refl _ _) _) (hHeld.2.2.2.2.2)⟩ (fun hHeld => ?_)
         clear hK K
         refine norm_ (a' := ?_) ?_ ?_
         rotate_left
         · show Act.put _ (some 60) _ = _
           simp only [Act.put, List.setIfInBounds_toArray, List.set_cons_zero, List.set_cons_succ, i64_w, i32_w]
           rfl
         refine two_ (i := 4) (j := 10) (Ni := some 56) (Nj := some 62) #[true, true, true, true, true, false, true, true, true, true, false, false, false, false, false, false, false] #[true, true, true, true, false, false, true, true, true, true, true, false, false, false, false, false, false] rfl rfl rfl rfl (by kernel_rfl) (by decide) (by decide) (fun K hK => ?_) (fun K hK => ?_)
         · skip
           refine goes_ Try.func36 (by kernel_rfl) rfl #[.pointer (some ⟨g, 0, none⟩), .int .i64 (vn : Int)] (by rfl) rfl rfl (by simp only [List.map_toArray, List.map_cons, List.map_nil]; rfl) ?_
           with_reducible refine (term_quiet (B := w.heap.size) (F := F) (b := 0) (l := l) (HID.out.below (by repeat (first | exact Below.refl _ _ | apply below_alloc | apply pw_below_drewN))) _ mk HMK.out).mono ?_
           rintro e_ w' ⟨rfl, n3, rfl⟩
           refine ⟨_, rfl, ?_⟩
           refine hK.out _ _ ⟨pw_cell_below (pw_below_drewN (Below.refl _ _) _) (hHeld.1), pw_cell_below (pw_below_drewN (Below.refl _ _) _) (hHeld.2.1), pw_cell_below (pw_below_drewN (Below.refl _ _) _) (hHeld.2.2.1), pw_cell_below (pw_below_drewN (Below.refl _ _) _) (hHeld.2.2.2.1), pw_cell_below (pw_below_drewN (Below.refl _ _) _) (hHeld.2.2.2.2.1), pw_cell_below (pw_below_drewN (Below.refl _ _) _) (hHeld.2.2.2.2.2)⟩ (fun hHeld => ?_)
           clear hK K
           refine norm_ (a' := ?_) ?_ ?_
           rotate_left
           · show Act.put _ (some 56) _ = _
             simp only [Act.put, List.setIfInBounds_toArray, List.set_cons_zero, List.set_cons_succ, i64_w, i32_w]
             rfl
           refine pure_ (i := 5) (N := some 57) (v := ?_) (a' := ?_) #[true, true, true, true, true, true, true, true, true, true, false, false, false, false, false, false, false] rfl rfl (by kernel_rfl) (fun _ _ _ h => h) (Or.inl ⟨by rfl, ?_⟩) ?_ ?_
           rotate_left
           · intro w'
             go_simp
             with_reducible rfl
           rotate_left
           · simp only [Act.put, List.setIfInBounds_toArray, List.set_cons_zero, List.set_cons_succ, i64_w, i32_w]
             rfl
           refine one_ (i := 10) (N := some 62) #[true, true, true, true, true, true, true, true, true, true, true, false, false, false, false, false, false] rfl rfl (by kernel_rfl) (by decide) (fun K hK => ?_)
           refine value_ (w1 := ?_) (v := ?_) (by rfl) rfl ?_ ?_
           rotate_left 2
           · go_simp
             constructor
             · rfl
             · rfl
           refine hK.out _ _ ⟨pw_cell_below (below_alloc (Below.refl _ _) _) (hHeld.1), pw_cell_below (below_alloc (Below.refl _ _) _) (hHeld.2.1), pw_cell_below (below_alloc (Below.refl _ _) _) (hHeld.2.2.1), pw_cell_below (below_alloc (Below.refl _ _) _) (hHeld.2.2.2.1), pw_cell_below (below_alloc (Below.refl _ _) _) (hHeld.2.2.2.2.1), pw_cell_below (below_alloc (Below.refl _ _) _) (hHeld.2.2.2.2.2)⟩ (fun hHeld => ?_)
           clear hK K
           refine norm_ (a' := ?_) ?_ ?_
           rotate_left
           · show Act.put _ (some 62) _ = _
             simp only [Act.put, List.setIfInBounds_toArray, List.set_cons_zero, List.set_cons_succ, i64_w, i32_w]
             rfl
           exact norm_ (by simp only [putAll, Act.put, List.setIfInBounds_toArray, List.set_cons_zero, List.set_cons_succ]) (hCont (wd.heap.size, wd.heap.size + 1) _ ⟨(by repeat (first | exact Below.refl _ _ | apply below_alloc | apply pw_below_drewN)), h2old rfl, h2new rfl, Nat.le_refl _, Nat.le_succ _⟩)
         · skip
           refine value_ (w1 := ?_) (v := ?_) (by rfl) rfl ?_ ?_
           rotate_left 2
           · go_simp
             constructor
             · rfl
             · rfl
           refine hK.out _ _ ⟨pw_cell_below (below_alloc (Below.refl _ _) _) (hHeld.1), pw_cell_below (below_alloc (Below.refl _ _) _) (hHeld.2.1), pw_cell_below (below_alloc (Below.refl _ _) _) (hHeld.2.2.1), pw_cell_below (below_alloc (Below.refl _ _) _) (hHeld.2.2.2.1), pw_cell_below (below_alloc (Below.refl _ _) _) (hHeld.2.2.2.2.1), pw_cell_below (below_alloc (Below.refl _ _) _) (hHeld.2.2.2.2.2)⟩ (fun hHeld => ?_)
           clear hK K
           refine norm_ (a' := ?_) ?_ ?_
           rotate_left
           · show Act.put _ (some 62) _ = _
             simp only [Act.put, List.setIfInBounds_toArray, List.set_cons_zero, List.set_cons_succ, i64_w, i32_w]
             rfl
           refine one_ (i := 4) (N := some 56) #[true, true, true, true, true, false, true, true, true, true, true, false, false, false, false, false, false] rfl rfl (by kernel_rfl) (by decide) (fun K hK => ?_)
           refine goes_ Try.func36 (by kernel_rfl) rfl #[.pointer (some ⟨g, 0, none⟩), .int .i64 (vn : Int)] (by rfl) rfl rfl (by simp only [List.map_toArray, List.map_cons, List.map_nil]; rfl) ?_
           with_reducible refine (term_quiet (B := w.heap.size) (F := F) (b := 0) (l := l) (HID.out.below (by repeat (first | exact Below.refl _ _ | apply below_alloc | apply pw_below_drewN))) _ mk HMK.out).mono ?_
           rintro e_ w' ⟨rfl, n3, rfl⟩
           refine ⟨_, rfl, ?_⟩
           refine hK.out _ _ ⟨pw_cell_below (pw_below_drewN (Below.refl _ _) _) (hHeld.1), pw_cell_below (pw_below_drewN (Below.refl _ _) _) (hHeld.2.1), pw_cell_below (pw_below_drewN (Below.refl _ _) _) (hHeld.2.2.1), pw_cell_below (pw_below_drewN (Below.refl _ _) _) (hHeld.2.2.2.1), pw_cell_below (pw_below_drewN (Below.refl _ _) _) (hHeld.2.2.2.2.1), pw_cell_below (pw_below_drewN (Below.refl _ _) _) (hHeld.2.2.2.2.2)⟩ (fun hHeld => ?_)
           clear hK K
           refine norm_ (a' := ?_) ?_ ?_
           rotate_left
           · show Act.put _ (some 56) _ = _
             simp only [Act.put, List.setIfInBounds_toArray, List.set_cons_zero, List.set_cons_succ, i64_w, i32_w]
             rfl
           refine pure_ (i := 5) (N := some 57) (v := ?_) (a' := ?_) #[true, true, true, true, true, true, true, true, true, true, true, false, false, false, false, false, false] rfl rfl (by kernel_rfl) (fun _ _ _ h => h) (Or.inl ⟨by rfl, ?_⟩) ?_ ?_
           rotate_left
           · intro w'
             go_simp
             with_reducible rfl
           rotate_left
           · simp only [Act.put, List.setIfInBounds_toArray, List.set_cons_zero, List.set_cons_succ, i64_w, i32_w]
             rfl
           exact norm_ (by simp only [putAll, Act.put, List.setIfInBounds_toArray, List.set_cons_zero, List.set_cons_succ]) (hCont (wd.heap.size, wd.heap.size + 1) _ ⟨(by repeat (first | exact Below.refl _ _ | apply below_alloc | apply pw_below_drewN)), h2old rfl, h2new rfl, Nat.le_refl _, Nat.le_succ _⟩)
       · skip
         refine value_ (w1 := ?_) (v := ?_) (by rfl) rfl ?_ ?_
         rotate_left 2
         · go_simp
           constructor
           · rfl
           · rfl
         refine hK.out _ _ ⟨pw_cell_below (below_alloc (Below.refl _ _) _) (hHeld.1), pw_cell_below (below_alloc (Below.refl _ _) _) (hHeld.2.1), pw_cell_below (below_alloc (Below.refl _ _) _) (hHeld.2.2.1), pw_cell_below (below_alloc (Below.refl _ _) _) (hHeld.2.2.2.1), pw_cell_below (below_alloc (Below.refl _ _) _) (hHeld.2.2.2.2.1), pw_cell_below (below_alloc (Below.refl _ _) _) (hHeld.2.2.2.2.2)⟩ (fun hHeld => ?_)
         clear hK K
         refine norm_ (a' := ?_) ?_ ?_
         rotate_left
         · show Act.put _ (some 62) _ = _
           simp only [Act.put, List.setIfInBounds_toArray, List.set_cons_zero, List.set_cons_succ, i64_w, i32_w]
           rfl
         refine two_ (i := 4) (j := 8) (Ni := some 56) (Nj := some 60) #[true, true, true, true, true, false, true, true, false, true, true, false, false, false, false, false, false] #[true, true, true, true, false, false, true, true, true, true, true, false, false, false, false, false, false] rfl rfl rfl rfl (by kernel_rfl) (by decide) (by decide) (fun K hK => ?_) (fun K hK => ?_)
         · skip
           refine goes_ Try.func36 (by kernel_rfl) rfl #[.pointer (some ⟨g, 0, none⟩), .int .i64 (vn : Int)] (by rfl) rfl rfl (by simp only [List.map_toArray, List.map_cons, List.map_nil]; rfl) ?_
           with_reducible refine (term_quiet (B := w.heap.size) (F := F) (b := 0) (l := l) (HID.out.below (by repeat (first | exact Below.refl _ _ | apply below_alloc | apply pw_below_drewN))) _ mk HMK.out).mono ?_
           rintro e_ w' ⟨rfl, n3, rfl⟩
           refine ⟨_, rfl, ?_⟩
           refine hK.out _ _ ⟨pw_cell_below (pw_below_drewN (Below.refl _ _) _) (hHeld.1), pw_cell_below (pw_below_drewN (Below.refl _ _) _) (hHeld.2.1), pw_cell_below (pw_below_drewN (Below.refl _ _) _) (hHeld.2.2.1), pw_cell_below (pw_below_drewN (Below.refl _ _) _) (hHeld.2.2.2.1), pw_cell_below (pw_below_drewN (Below.refl _ _) _) (hHeld.2.2.2.2.1), pw_cell_below (pw_below_drewN (Below.refl _ _) _) (hHeld.2.2.2.2.2)⟩ (fun hHeld => ?_)
           clear hK K
           refine norm_ (a' := ?_) ?_ ?_
           rotate_left
           · show Act.put _ (some 56) _ = _
             simp only [Act.put, List.setIfInBounds_toArray, List.set_cons_zero, List.set_cons_succ, i64_w, i32_w]
             rfl
           refine pure_ (i := 5) (N := some 57) (v := ?_) (a' := ?_) #[true, true, true, true, true, true, true, true, false, true, true, false, false, false, false, false, false] rfl rfl (by kernel_rfl) (fun _ _ _ h => h) (Or.inl ⟨by rfl, ?_⟩) ?_ ?_
           rotate_left
           · intro w'
             go_simp
             with_reducible rfl
           rotate_left
           · simp only [Act.put, List.setIfInBounds_toArray, List.set_cons_zero, List.set_cons_succ, i64_w, i32_w]
             rfl
           refine one_ (i := 8) (N := some 60) #[true, true, true, true, true, true, true, true, true, true, true, false, false, false, false, false, false] rfl rfl (by kernel_rfl) (by decide) (fun K hK => ?_)
           refine value_ (w1 := ?_) (v := ?_) (by rfl) rfl ?_ ?_
           rotate_left 2
           · go_simp
             constructor
             · rfl
             · rfl
           refine hK.out _ _ ⟨pw_cell_below (below_alloc (Below.refl _ _) _) (hHeld.1), pw_cell_below (below_alloc (Below.refl _ _) _) (hHeld.2.1), pw_cell_below (below_alloc (Below.refl _ _) _) (hHeld.2.2.1), pw_cell_below (below_alloc (Below.refl _ _) _) (hHeld.2.2.2.1), pw_cell_below (below_alloc (Below.refl _ _) _) (hHeld.2.2.2.2.1), pw_cell_below (below_alloc (Below.refl _ _) _) (hHeld.2.2.2.2.2)⟩ (fun hHeld => ?_)
           clear hK K
           refine norm_ (a' := ?_) ?_ ?_
           rotate_left
           · show Act.put _ (some 60) _ = _
             simp only [Act.put, List.setIfInBounds_toArray, List.set_cons_zero, List.set_cons_succ, i64_w, i32_w]
             rfl
           exact norm_ (by simp only [putAll, Act.put, List.setIfInBounds_toArray, List.set_cons_zero, List.set_cons_succ]) (hCont (wd.heap.size + 1, wd.heap.size) _ ⟨(by repeat (first | exact Below.refl _ _ | apply below_alloc | apply pw_below_drewN)), h2new rfl, h2old rfl, Nat.le_succ _, Nat.le_refl _⟩)
         · skip
           refine value_ (w1 := ?_) (v := ?_) (by rfl) rfl ?_ ?_
           rotate_left 2
           · go_simp
             constructor
             · rfl
             · rfl
           refine hK.out _ _ ⟨pw_cell_below (below_alloc (Below.refl _ _) _) (hHeld.1), pw_cell_below (below_alloc (Below.refl _ _) _) (hHeld.2.1), pw_cell_below (below_alloc (Below.refl _ _) _) (hHeld.2.2.1), pw_cell_below (below_alloc (Below.refl _ _) _) (hHeld.2.2.2.1), pw_cell_below (below_alloc (Below.refl _ _) _) (hHeld.2.2.2.2.1), pw_cell_below (below_alloc (Below.refl _ _) _) (hHeld.2.2.2.2.2)⟩ (fun hHeld => ?_)
           clear hK K
           refine norm_ (a' := ?_) ?_ ?_
           rotate_left
           · show Act.put _ (some 60) _ = _
             simp only [Act.put, List.setIfInBounds_toArray, List.set_cons_zero, List.set_cons_succ, i64_w, i32_w]
             rfl
           refine one_ (i := 4) (N := some 56) #[true, true, true, true, true, false, true, true, true, true, true, false, false, false, false, false, false] rfl rfl (by kernel_rfl) (by decide) (fun K hK => ?_)
           refine goes_ Try.func36 (by kernel_rfl) rfl #[.pointer (some ⟨g, 0, none⟩), .int .i64 (vn : Int)] (by rfl) rfl rfl (by simp only [List.map_toArray, List.map_cons, List.map_nil]; rfl) ?_
           with_reducible refine (term_quiet (B := w.heap.size) (F := F) (b := 0) (l := l) (HID.out.below (by repeat (first | exact Below.refl _ _ | apply below_alloc | apply pw_below_drewN))) _ mk HMK.out).mono ?_
           rintro e_ w' ⟨rfl, n3, rfl⟩
           refine ⟨_, rfl, ?_⟩
           refine hK.out _ _ ⟨pw_cell_below (pw_below_drewN (Below.refl _ _) _) (hHeld.1), pw_cell_below (pw_below_drewN (Below.refl _ _) _) (hHeld.2.1), pw_cell_below (pw_below_drewN (Below.refl _ _) _) (hHeld.2.2.1), pw_cell_below (pw_below_drewN (Below.refl _ _) _) (hHeld.2.2.2.1), pw_cell_below (pw_below_drewN (Below.refl _ _) _) (hHeld.2.2.2.2.1), pw_cell_below (pw_below_drewN (Below.refl _ _) _) (hHeld.2.2.2.2.2)⟩ (fun hHeld => ?_)
           clear hK K
           refine norm_ (a' := ?_) ?_ ?_
           rotate_left
           · show Act.put _ (some 56) _ = _
             simp only [Act.put, List.setIfInBounds_toArray, List.set_cons_zero, List.set_cons_succ, i64_w, i32_w]
             rfl
           refine pure_ (i := 5) (N := some 57) (v := ?_) (a' := ?_) #[true, true, true, true, true, true, true, true, true, true, true, false, false, false, false, false, false] rfl rfl (by kernel_rfl) (fun _ _ _ h => h) (Or.inl ⟨by rfl, ?_⟩) ?_ ?_
           rotate_left
           · intro w'
             go_simp
             with_reducible rfl
           rotate_left
           · simp only [Act.put, List.setIfInBounds_toArray, List.set_cons_zero, List.set_cons_succ, i64_w, i32_w]
             rfl
           exact norm_ (by simp only [putAll, Act.put, List.setIfInBounds_toArray, List.set_cons_zero, List.set_cons_succ]) (hCont (wd.heap.size + 1, wd.heap.size) _ ⟨(by repeat (first | exact Below.refl _ _ | apply below_alloc | apply pw_below_drewN)), h2new rfl, h2old rfl, Nat.le_succ _, Nat.le_refl _⟩)
     rintro ⟨b1, b2⟩ w4 ⟨hb4, hx1, hx2, hge1, hge2⟩
     rw [show wrap64 (tp + 1) = tp + 1 by unfold wrap64; omega] at hx1
     have HB4 := Aside0.mk hb4
     have HX1 := Aside0.mk hx1
     have HX2 := Aside0.mk hx2
     have HGE1 := Aside0.mk hge1
     have HGE2 := Aside0.mk hge2
     clear hb4 hx1 hx2 hge1 hge2
     have hHeld : w4.cell? ⟨ge, 0, none⟩ = some (Value.int .i64 1) ∧ w4.cell? ⟨ge, 1, none⟩ = some (Value.int .i64 9) ∧ w4.cell? ⟨ge, 2, none⟩ = some (Value.int .i64 9) ∧ w4.cell? ⟨ge, 3, none⟩ = some (Value.string ⟨#[]⟩) ∧ w4.cell? ⟨ge, 4, none⟩ = some (Value.slice none 0 0) ∧ w4.cell? ⟨ge, 5, none⟩ = some (Value.int .i64 0) := ⟨pw_cell_below HB4.out (HHD.out.1), pw_cell_below HB4.out (HHD.out.2.1), pw_cell_below HB4.out (HHD.out.2.2.1), pw_cell_below HB4.out (HHD.out.2.2.2.1), pw_cell_below HB4.out (HHD.out.2.2.2.2.1), pw_cell_below HB4.out (HHD.out.2.2.2.2.2)⟩
     refine norm_ (a' := ?_) ?_ ?_
     rotate_left
     · simp only [putAll, Act.put, List.setIfInBounds_toArray, List.set_cons_zero, List.set_cons_succ]
       rfl
     refine last_ (i := 11) (N := some 63) #[true, true, true, true, true, true, true, true, true, true, true, true, false, false, false, false, false] rfl rfl (by kernel_rfl) (by decide) (fun K hK => ?_)
     have hl4 := HLD.out.below HB4.out
     have hput4 := put_live hl4 (vn : Int) (mk + 1) (some ⟨b1, 0, none⟩) 1 [tp + 1] (some ⟨b2, 0, none⟩) 1 [(⟨1, 9, 9, ⟨#[]⟩, [], 0⟩ : S77)] (fun W_ hk_ => C_ints (blk_kept hk_ HX1.out (fun hf_ => by have := HLT2.out _ hf_; have := HGE1.out; omega))) (Nat.le_refl _) (by simp) (fun W_ hk_ => C_entry (blk_kept hk_ HX2.out (fun hf_ => by have := HLT2.out _ hf_; have := HGE2.out; omega))) (Nat.le_refl _) (by simp) (fun x hx => by simp at hx; subst hx; decide)
     simp only [List.length_singleton] at hput4
     refine goes_ Try.func32 (by kernel_rfl) rfl #[.pointer (some ⟨g, 0, none⟩), .int .i64 (vn : Int), .int .i64 (wrap64 (mk + 1)), .slice (some ⟨b1, 0, none⟩) 1 1, .slice (some ⟨b2, 0, none⟩) 1 1] (by rfl) rfl rfl (by simp only [List.map_toArray, List.map_cons, List.map_nil]; rfl) ?_
     rw [show wrap64 (mk + 1) = mk + 1 by unfold wrap64; omega]
     with_reducible refine (hput4).mono ?_
     rintro e_ w6 ⟨F6, rfl, hl_, hf_, hk_⟩
     refine ⟨_, rfl, ?_⟩
     rw [HPN.out]
     rw [HPN.out] at hl_
     have HL6 := Aside0.mk hl_
     have HF6 := Aside0.mk hf_
     have HK6 := Aside0.mk hk_
     clear hl_ hf_ hk_ hput4 hl4
     refine hK.out _ _ ?_
     clear hK K
     refine norm_ (a' := ?_) ?_ ?_
     rotate_left
     · show Act.put _ (some 63) _ = _
       simp only [Act.put, List.setIfInBounds_toArray, List.set_cons_zero, List.set_cons_succ, i64_w, i32_w]
       rfl
     refine pure_ (i := 12) (N := some 51) (v := ?_) (a' := ?_) #[true, true, true, true, true, true, true, true, true, true, true, true, true, false, false, false, false] rfl rfl (by kernel_rfl) (fun _ _ _ h => h) (Or.inl ⟨by rfl, ?_⟩) ?_ ?_
     rotate_left
     · intro w'
       go_simp
       with_reducible rfl
     rotate_left
     · simp only [Act.put, List.setIfInBounds_toArray, List.set_cons_zero, List.set_cons_succ, i64_w, i32_w]
       rfl
     refine pure_ (i := 13) (N := some 64) (v := ?_) (a' := ?_) #[true, true, true, true, true, true, true, true, true, true, true, true, true, true, false, false, false] rfl rfl (by kernel_rfl) (fun _ _ _ h => h) (Or.inl ⟨by rfl, ?_⟩) ?_ ?_
     rotate_left
     · intro w'
       go_simp
       with_reducible rfl
     rotate_left
     · simp only [Act.put, List.setIfInBounds_toArray, List.set_cons_zero, List.set_cons_succ, i64_w, i32_w]
       rfl
     refine pure_ (i := 14) (N := some 65) (v := ?_) (a' := ?_) #[true, true, true, true, true, true, true, true, true, true, true, true, true, true, true, false, false] rfl rfl (by kernel_rfl) (fun _ _ _ h => h) (Or.inl ⟨by rfl, ?_⟩) ?_ ?_
     rotate_left
     · intro w'
       go_simp
       with_reducible rfl
     rotate_left
     · simp only [Act.put, List.setIfInBounds_toArray, List.set_cons_zero, List.set_cons_succ, i64_w, i32_w]
       rfl
     refine pure_ (i := 15) (N := some 12) (v := ?_) (a' := ?_) #[true, true, true, true, true, true, true, true, true, true, true, true, true, true, true, true, false] rfl rfl (by kernel_rfl) (fun _ _ _ h => h) (Or.inl ⟨by rfl, ?_⟩) ?_ ?_
     rotate_left
     · intro w'
       go_simp
       with_reducible rfl
     rotate_left
     · simp only [Act.put, List.setIfInBounds_toArray, List.set_cons_zero, List.set_cons_succ, i64_w, i32_w]
       rfl
     refine pure_ (i := 16) (N := some 13) (v := ?_) (a' := ?_) #[true, true, true, true, true, true, true, true, true, true, true, true, true, true, true, true, true] rfl rfl (by kernel_rfl) (fun _ _ _ h => h) (Or.inl ⟨by rfl, ?_⟩) ?_ ?_
     rotate_left
     · intro w'
       go_simp
       with_reducible rfl
     rotate_left
     · simp only [Act.put, List.setIfInBounds_toArray, List.set_cons_zero, List.set_cons_succ, i64_w, i32_w]
       rfl
     refine done_ (by kernel_rfl) ?_
     have HBy4 := Aside0.mk (below_then HYD.out HYD.out.size HB4.out)
     have HT6 := Aside0.mk (R_apart (R_out_below HT.out HBy4.out) HK6.out HF6.out)
     have HE6 := Aside0.mk (R_apart (R_out_below HE.out HBy4.out) HK6.out HF6.out)
     have BE6 := Aside0.mk (blk_kept HK6.out (blk_below BE.out HBy4.out) HNE.out)
     have HN6 := Aside0.mk (show ¬ F6 ge from fun hf => by rcases HF6.out ge hf with h | h; exact HNE.out h; have := blk_lt (blk_below BE.out HBy4.out); omega)
     have HI6 := Aside0.mk HL6.out.1
     clear HLD HID BED HLT2 HHD HYD HT HE BE HNE HL HK6 HF6 HBy4 HPN HX1 HX2 HB4 HGE1 HGE2 hHeld
     have hl14 : ((l.length : Int) != (ts.length : Int)) = false := bne_eq_false_iff_eq.mpr (by have := HTLn.out; omega)
     have hl15 : (((p : Int) + 1) != (ts.length : Int)) = false := bne_eq_false_iff_eq.mpr (by have := HTLn.out; omega)
     go_wp2_with (first
       | (go_at_call 35; refine (last0 (B := w.heap.size) (F := F6) (l := l) HI6.out).mono ?_; rintro e_ w' ⟨rfl, ⟨n_, rfl⟩⟩))
     go_meet
     case rel =>
       have hbc := pw_below_drewN (Below.refl w6.heap.size w6)
       exact ⟨F6, _, _, ⟨HL6.out.below (hbc _)⟩, ⟨R_out_below HT6.out (hbc _)⟩, ⟨R_out_below HE6.out (hbc _)⟩, ⟨blk_below BE6.out (hbc _)⟩, HN6⟩
   · have dv : decide (0 < (vn : Int)) = false := decide_eq_false hv
     have dv2 : decide (0 < vn) = false := decide_eq_false (by omega)
     go_wp2
     go_meet
     case rel => exact ⟨F, _, _, HL, HT, HE, BE, HNE⟩
  case rest =>
    obtain ⟨F6, BT, BF, HLc, HTc, HEc, BEc, HNc⟩ := hcut
    clear HL HT HE BE HNE
    have htl := HTLn.out
    have hel := HELn.out
    go_upto_region 16 with (fail)
    have HPN := Aside0.mk (put_cut l vn mk tl tp (⟨1, 9, 9, ⟨#[]⟩, [], 0⟩ : S77) HMK.out hvn (by omega) (by omega) (by omega) HALL.out htp1)
    have HLD := Aside0.mk HLc.out.drew
    have HID := Aside0.mk HLc.out.drew.1
    have HLT2 := Aside0.mk (show ∀ q, F6 q → q < wc.drew.heap.size from HLc.out.lt)
    have BE := Aside0.mk (blk_drew BEc.out)
    have HYD := Aside0.mk (show Below wc.heap.size wc wc.drew from below_drew (Below.refl _ _))
    refine start_ (n := 15) (S := fun w' => w'.cell? ⟨ge, 0, none⟩ = some (Value.int .i64 1) ∧ w'.cell? ⟨ge, 1, none⟩ = some (Value.int .i64 9) ∧ w'.cell? ⟨ge, 2, none⟩ = some (Value.int .i64 9) ∧ w'.cell? ⟨ge, 3, none⟩ = some (Value.string ⟨#[]⟩) ∧ w'.cell? ⟨ge, 4, none⟩ = some (Value.slice none 0 0) ∧ w'.cell? ⟨ge, 5, none⟩ = some (Value.int .i64 0)) (ds := [9]) #[false, false, false, false, false, false, false, false, false, false, false, false, false, false, false] (by kernel_rfl) rfl rfl ⟨(blk_cell BE.out 0).trans rfl, (blk_cell BE.out 1).trans rfl, (blk_cell BE.out 2).trans rfl, (blk_cell BE.out 3).trans rfl, (blk_cell BE.out 4).trans rfl, (blk_cell BE.out 5).trans rfl⟩ (fun hHeld => ?_)
    have HHD := Aside0.mk hHeld
    generalize wc.drew = wd at HLD HID HLT2 BE HYD HHD hHeld ⊢
    refine pure_ (i := 0) (N := some 76) (v := ?_) (a' := ?_) #[true, false, false, false, false, false, false, false, false, false, false, false, false, false, false] rfl rfl (by kernel_rfl) (fun _ _ _ h => h) (Or.inl ⟨by rfl, ?_⟩) ?_ ?_
    rotate_left
    · intro w'
      go_simp
      with_reducible rfl
    rotate_left
    · simp only [Act.put, List.setIfInBounds_toArray, List.set_cons_zero, List.set_cons_succ, i64_w, i32_w]
      rfl
    refine pure_ (i := 1) (N := some 77) (v := ?_) (a' := ?_) #[true, true, false, false, false, false, false, false, false, false, false, false, false, false, false] rfl rfl (by kernel_rfl) (fun _ _ _ h => h) (Or.inl ⟨by rfl, ?_⟩) ?_ ?_
    rotate_left
    · intro w'
      go_simp
      with_reducible rfl
    rotate_left
    · simp only [Act.put, List.setIfInBounds_toArray, List.set_cons_zero, List.set_cons_succ, i64_w, i32_w]
      rfl
    refine pure_ (i := 2) (N := some 78) (v := ?_) (a' := ?_) #[true, true, true, false, false, false, false, false, false, false, false, false, false, false, false] rfl rfl (by kernel_rfl) (fun _ _ _ h => h) (Or.inl ⟨by rfl, ?_⟩) ?_ ?_
    rotate_left
    · intro w'
      go_simp
      with_reducible rfl
    rotate_left
    · simp only [Act.put, List.setIfInBounds_toArray, List.set_cons_zero, List.set_cons_succ, i64_w, i32_w]
      rfl
    refine pure_ (i := 3) (N := some 79) (v := ?_) (a' := ?_) #[true, true, true, true, false, false, false, false, false, false, false, false, false, false, false] rfl rfl (by kernel_rfl) (fun _ _ _ h => h) (Or.inl ⟨by rfl, ?_⟩) ?_ ?_
    rotate_left
    · intro w'
      go_simp
      with_reducible rfl
    rotate_left
    · simp only [Act.put, List.setIfInBounds_toArray, List.set_cons_zero, List.set_cons_succ, i64_w, i32_w]
      rfl
    refine pure_ (i := 5) (N := some 81) (v := ?_) (a' := ?_) #[true, true, true, true, false, true, false, false, false, false, false, false, false, false, false] rfl rfl (by kernel_rfl) (fun _ _ _ h => h) (Or.inl ⟨by rfl, ?_⟩) ?_ ?_
    rotate_left
    · intro w'
      go_simp
      with_reducible rfl
    rotate_left
    · simp only [Act.put, List.setIfInBounds_toArray, List.set_cons_zero, List.set_cons_succ, i64_w, i32_w]
      rfl
    refine take_ (i := 7) (N := some 83) (v := ?_) (a' := ?_) #[true, true, true, true, false, true, false, true, false, false, false, false, false, false, false] rfl rfl (by kernel_rfl) (fun _ _ _ h => h) (Or.inl ⟨by rfl, ?_⟩) hHeld ?_ ?_
    rotate_left
    · rintro w' ⟨s0, s1, s2, s3, s4, s5⟩
      go_simp
      with_reducible rfl
    rotate_left
    · simp only [Act.put, List.setIfInBounds_toArray, List.set_cons_zero, List.set_cons_succ, i64_w, i32_w]
      rfl
    refine join_ (σ := Nat × Nat) 6 #[true, true, true, true, true, true, true, true, true, false, false, false, false, false, false] (fun s => [(80, Value.int .i64 mk), (82, Value.slice (some ⟨s.1, 0, none⟩) 1 1), (84, Value.slice (some ⟨s.2, 0, none⟩) 1 1)]) (fun s w' => Below wd.heap.size wd w' ∧ w'.heap[s.1]? = some (.cells #[.int .i64 (tp)] 3 (0, 0)) ∧ w'.heap[s.2]? = some (.cells #[.int .i64 1, .int .i64 9, .int .i64 9, .string ⟨#[]⟩, .slice none 0 0, .int .i64 0] 77 (0, 0)) ∧ wd.heap.size ≤ s.1 ∧ wd.heap.size ≤ s.2) ?_ ?_
    rotate_left
    · intro hCont
      refine three_ (i := 4) (j := 6) (k := 8) (Ni := some 80) (Nj := some 82) (Nk := some 84) #[true, true, true, true, true, true, false, true, false, false, false, false, false, false, false] #[true, true, true, true, false, true, true, true, false, false, false, false, false, false, false] #[true, true, true, true, false, true, false, true, true, false, false, false, false, false, false] rfl rfl rfl rfl rfl rfl (by kernel_rfl) (by decide) (by decide) (by decide) (fun K hK => ?_) (fun K hK => ?_) (fun K hK => ?_)
      · skip
        refine goes_ Try.func36 (by kernel_rfl) rfl #[.pointer (some ⟨g, 0, none⟩), .int .i64 (vn : Int)] (by rfl) rfl rfl (by simp only [List.map_toArray, List.map_cons, List.map_nil]; rfl) ?_
        with_reducible refine (term_quiet (B := w.heap.size) (F := F6) (b := 0) (l := l) (HID.out.below (by repeat (first | exact Below.refl _ _ | apply below_alloc | apply pw_below_drewN))) _ mk HMK.out).mono ?_
        rintro e_ w' ⟨rfl, n3, rfl⟩
        refine ⟨_, rfl, ?_⟩
        refine hK.out _ _ ⟨pw_cell_below (pw_below_drewN (Below.refl _ _) _) (hHeld.1), pw_cell_below (pw_below_drewN (Below.refl _ _) _) (hHeld.2.1), pw_cell_below (pw_below_drewN (Below.refl _ _) _) (hHeld.2.2.1), pw_cell_below (pw_below_drewN (Below.refl _ _) _) (hHeld.2.2.2.1), pw_cell_below (pw_below_drewN (Below.refl _ _) _) (hHeld.2.2.2.2.1), pw_cell_below (pw_below_drewN (Below.refl _ _) _) (hHeld.2.2.2.2.2)⟩ (fun hHeld => ?_)
        clear hK K
        refine norm_ (a' := ?_) ?_ ?_
        rotate_left
        · show Act.put _ (some 80) _ = _
          simp only [Act.put, List.setIfInBounds_toArray, List.set_cons_zero, List.set_cons_succ, i64_w, i32_w]
          rfl
        refine two_ (i := 6) (j := 8) (Ni := some 82) (Nj := some 84) #[true, true, true, true, true, true, true, true, false, false, false, false, false, false, false] #[true, true, true, true, true, true, false, true, true, false, false, false, false, false, false] rfl rfl rfl rfl (by kernel_rfl) (by decide) (by decide) (fun K hK => ?_) (fun K hK => ?_)
        · skip
          refine value_ (w1 := ?_) (v := ?_) (by rfl) rfl ?_ ?_
          rotate_left 2
          · go_simp
            constructor
            · rfl
            · rfl
          refine hK.out _ _ ⟨pw_cell_below (below_alloc (Below.refl _ _) _) (hHeld.1), pw_cell_below (below_alloc (Below.refl _ _) _) (hHeld.2.1), pw_cell_below (below_alloc (Below.refl _ _) _) (hHeld.2.2.1), pw_cell_below (below_alloc (Below.refl _ _) _) (hHeld.2.2.2.1), pw_cell_below (below_alloc (Below.refl _ _) _) (hHeld.2.2.2.2.1), pw_cell_below (below_alloc (Below.refl _ _) _) (hHeld.2.2.2.2.2)⟩ (fun hHeld => ?_)
          clear hK K
          refine norm_ (a' := ?_) ?_ ?_
          rotate_left
          · show Act.put _ (some 82) _ = _
            simp only [Act.put, List.setIfInBounds_toArray, List.set_cons_zero, List.set_cons_succ, i64_w, i32_w]
            rfl
          refine one_ (i := 8) (N := some 84) #[true, true, true, true, true, true, true, true, true, false, false, false, false, false, false] rfl rfl (by kernel_rfl) (by decide) (fun K hK => ?_)
          refine value_ (w1 := ?_) (v := ?_) (by rfl) rfl ?_ ?_
          rotate_left 2
          · go_simp
            constructor
            · rfl
            · rfl
          refine hK.out _ _ ⟨pw_cell_below (below_alloc (Below.refl _ _) _) (hHeld.1), pw_cell_below (below_alloc (Below.refl _ _) _) (hHeld.2.1), pw_cell_below (below_alloc (Below.refl _ _) _) (hHeld.2.2.1), pw_cell_below (below_alloc (Below.refl _ _) _) (hHeld.2.2.2.1), pw_cell_below (below_alloc (Below.refl _ _) _) (hHeld.2.2.2.2.1), pw_cell_below (below_alloc (Below.refl _ _) _) (hHeld.2.2.2.2.2)⟩ (fun hHeld => ?_)
          clear hK K
          refine norm_ (a' := ?_) ?_ ?_
          rotate_left
          · show Act.put _ (some 84) _ = _
            simp only [Act.put, List.setIfInBounds_toArray, List.set_cons_zero, List.set_cons_succ, i64_w, i32_w]
            rfl
          exact norm_ (by simp only [putAll, Act.put, List.setIfInBounds_toArray, List.set_cons_zero, List.set_cons_succ]) (hCont (wd.heap.size, wd.heap.size + 1) _ ⟨(by repeat (first | exact Below.refl _ _ | apply below_alloc | apply pw_below_drewN)), h2old rfl, h2new rfl, Nat.le_refl _, Nat.le_succ _⟩)
        · skip
          refine value_ (w1 := ?_) (v := ?_) (by rfl) rfl ?_ ?_
          rotate_left 2
          · go_simp
            constructor
            · rfl
            · rfl
          refine hK.out _ _ ⟨pw_cell_below (below_alloc (Below.refl _ _) _) (hHeld.1), pw_cell_below (below_alloc (Below.refl _ _) _) (hHeld.2.1), pw_cell_below (below_alloc (Below.refl _ _) _) (hHeld.2.2.1), pw_cell_below (below_alloc (Below.refl _ _) _) (hHeld.2.2.2.1), pw_cell_below (below_alloc (Below.refl _ _) _) (hHeld.2.2.2.2.1), pw_cell_below (below_alloc (Below.refl _ _) _) (hHeld.2.2.2.2.2)⟩ (fun hHeld => ?_)
          clear hK K
          refine norm_ (a' := ?_) ?_ ?_
          rotate_left
          · show Act.put _ (some 84) _ = _
            simp only [Act.put, List.setIfInBounds_toArray, List.set_cons_zero, List.set_cons_succ, i64_w, i32_w]
            rfl
          refine one_ (i := 6) (N := some 82) #[true, true, true, true, true, true, true, true, true, false, false, false, false, false, false] rfl rfl (by kernel_rfl) (by decide) (fun K hK => ?_)
          refine value_ (w1 := ?_) (v := ?_) (by rfl) rfl ?_ ?_
          rotate_left 2
          · go_simp
            constructor
            · rfl
            · rfl
          refine hK.out _ _ ⟨pw_cell_below (below_alloc (Below.refl _ _) _) (hHeld.1), pw_cell_below (below_alloc (Below.refl _ _) _) (hHeld.2.1), pw_cell_below (below_alloc (Below.refl _ _) _) (hHeld.2.2.1), pw_cell_below (below_alloc (Below.refl _ _) _) (hHeld.2.2.2.1), pw_cell_below (below_alloc (Below.refl _ _) _) (hHeld.2.2.2.2.1), pw_cell_below (below_alloc (Below.refl _ _) _) (hHeld.2.2.2.2.2)⟩ (fun hHeld => ?_)
          clear hK K
          refine norm_ (a' := ?_) ?_ ?_
          rotate_left
          · show Act.put _ (some 82) _ = _
            simp only [Act.put, List.setIfInBounds_toArray, List.set_cons_zero, List.set_cons_succ, i64_w, i32_w]
            rfl
          exact norm_ (by simp only [putAll, Act.put, List.setIfInBounds_toArray, List.set_cons_zero, List.set_cons_succ]) (hCont (wd.heap.size + 1, wd.heap.size) _ ⟨(by repeat (first | exact Below.refl _ _ | apply below_alloc | apply pw_below_drewN)), h2new rfl, h2old rfl, Nat.le_succ _, Nat.le_refl _⟩)
      · skip
        refine value_ (w1 := ?_) (v := ?_) (by rfl) rfl ?_ ?_
        rotate_left 2
        · go_simp
          constructor
          · rfl
          · rfl
        refine hK.out _ _ ⟨pw_cell_below (below_alloc (Below.refl _ _) _) (hHeld.1), pw_cell_below (below_alloc (Below.refl _ _) _) (hHeld.2.1), pw_cell_below (below_alloc (Below.refl _ _) _) (hHeld.2.2.1), pw_cell_below (below_alloc (Below.refl _ _) _) (hHeld.2.2.2.1), pw_cell_below (below_alloc (Below.refl _ _) _) (hHeld.2.2.2.2.1), pw_cell_below (below_alloc (Below.refl _ _) _) (hHeld.2.2.2.2.2)⟩ (fun hHeld => ?_)
        clear hK K
        refine norm_ (a' := ?_) ?_ ?_
        rotate_left
        · show Act.put _ (some 82) _ = _
          simp only [Act.put, List.setIfInBounds_toArray, List.set_cons_zero, List.set_cons_succ, i64_w, i32_w]
          rfl
        refine two_ (i := 4) (j := 8) (Ni := some 80) (Nj := some 84) #[true, true, true, true, true, true, true, true, false, false, false, false, false, false, false] #[true, true, true, true, false, true, true, true, true, false, false, false, false, false, false] rfl rfl rfl rfl (by kernel_rfl) (by decide) (by decide) (fun K hK => ?_) (fun K hK => ?_)
        · skip
          refine goes_ Try.func36 (by kernel_rfl) rfl #[.pointer (some ⟨g, 0, none⟩), .int .i64 (vn : Int)] (by rfl) rfl rfl (by simp only [List.map_toArray, List.map_cons, List.map_nil]; rfl) ?_
          with_reducible refine (term_quiet (B := w.heap.size) (F := F6) (b := 0) (l := l) (HID.out.below (by repeat (first | exact Below.refl _ _ | apply below_alloc | apply pw_below_drewN))) _ mk HMK.out).mono ?_
          rintro e_ w' ⟨rfl, n3, rfl⟩
          refine ⟨_, rfl, ?_⟩
          refine hK.out _ _ ⟨pw_cell_below (pw_below_drewN (Below.refl _ _) _) (hHeld.1), pw_cell_below (pw_below_drewN (Below.refl _ _) _) (hHeld.2.1), pw_cell_below (pw_below_drewN (Below.refl _ _) _) (hHeld.2.2.1), pw_cell_below (pw_below_drewN (Below.refl _ _) _) (hHeld.2.2.2.1), pw_cell_below (pw_below_drewN (Below.refl _ _) _) (hHeld.2.2.2.2.1), pw_cell_below (pw_below_drewN (Below.refl _ _) _) (hHeld.2.2.2.2.2)⟩ (fun hHeld => ?_)
          clear hK K
          refine norm_ (a' := ?_) ?_ ?_
          rotate_left
          · show Act.put _ (some 80) _ = _
            simp only [Act.put, List.setIfInBounds_toArray, List.set_cons_zero, List.set_cons_succ, i64_w, i32_w]
            rfl
          refine one_ (i := 8) (N := some 84) #[true, true, true, true, true, true, true, true, true, false, false, false, false, false, false] rfl rfl (by kernel_rfl) (by decide) (fun K hK => ?_)
          refine value_ (w1 := ?_) (v := ?_) (by rfl) rfl ?_ ?_
          rotate_left 2
          · go_simp
            constructor
            · rfl
            · rfl
          refine hK.out _ _ ⟨pw_cell_below (below_alloc (Below.refl _ _) _) (hHeld.1), pw_cell_below (below_alloc (Below.refl _ _) _) (hHeld.2.1), pw_cell_below (below_alloc (Below.refl _ _) _) (hHeld.2.2.1), pw_cell_below (below_alloc (Below.refl _ _) _) (hHeld.2.2.2.1), pw_cell_below (below_alloc (Below.refl _ _) _) (hHeld.2.2.2.2.1), pw_cell_below (below_alloc (Below.refl _ _) _) (hHeld.2.2.2.2.2)⟩ (fun hHeld => ?_)
          clear hK K
          refine norm_ (a' := ?_) ?_ ?_
          rotate_left
          · show Act.put _ (some 84) _ = _
            simp only [Act.put, List.setIfInBounds_toArray, List.set_cons_zero, List.set_cons_succ, i64_w, i32_w]
            rfl
          exact norm_ (by simp only [putAll, Act.put, List.setIfInBounds_toArray, List.set_cons_zero, List.set_cons_succ]) (hCont (wd.heap.size, wd.heap.size + 1) _ ⟨(by repeat (first | exact Below.refl _ _ | apply below_alloc | apply pw_below_drewN)), h2old rfl, h2new rfl, Nat.le_refl _, Nat.le_succ _⟩)
        · skip
          refine value_ (w1 := ?_) (v := ?_) (by rfl) rfl ?_ ?_
          rotate_left 2
          · go_simp
            constructor
            · rfl
            · rfl
          refine hK.out _ _ ⟨pw_cell_below (below_alloc (Below.refl _ _) _) (hHeld.1), pw_cell_below (below_alloc (Below.refl _ _) _) (hHeld.2.1), pw_cell_below (below_alloc (Below.refl _ _) _) (hHeld.2.2.1), pw_cell_below (below_alloc (Below.refl _ _) _) (hHeld.2.2.2.1), pw_cell_below (below_alloc (Below.refl _ _) _) (hHeld.2.2.2.2.1), pw_cell_below (below_alloc (Below.refl _ _) _) (hHeld.2.2.2.2.2)⟩ (fun hHeld => ?_)
          clear hK K
          refine norm_ (a' := ?_) ?_ ?_
          rotate_left
          · show Act.put _ (some 84) _ = _
            simp only [Act.put, List.setIfInBounds_toArray, List.set_cons_zero, List.set_cons_succ, i64_w, i32_w]
            rfl
          refine one_ (i := 4) (N := some 80) #[true, true, true, true, true, true, true, true, true, false, false, false, false, false, false] rfl rfl (by kernel_rfl) (by decide) (fun K hK => ?_)
          refine goes_ Try.func36 (by kernel_rfl) rfl #[.pointer (some ⟨g, 0, none⟩), .int .i64 (vn : Int)] (by rfl) rfl rfl (by simp only [List.map_toArray, List.map_cons, List.map_nil]; rfl) ?_
          with_reducible refine (term_quiet (B := w.heap.size) (F := F6) (b := 0) (l := l) (HID.out.below (by repeat (first | exact Below.refl _ _ | apply below_alloc | apply pw_below_drewN))) _ mk HMK.out).mono ?_
          rintro e_ w' ⟨rfl, n3, rfl⟩
          refine ⟨_, rfl, ?_⟩
          refine hK.out _ _ ⟨pw_cell_below (pw_below_drewN (Below.refl _ _) _) (hHeld.1), pw_cell_below (pw_below_drewN (Below.refl _ _) _) (hHeld.2.1), pw_cell_below (pw_below_drewN (Below.refl _ _) _) (hHeld.2.2.1), pw_cell_below (pw_below_drewN (Below.refl _ _) _) (hHeld.2.2.2.1), pw_cell_below (pw_below_drewN (Below.refl _ _) _) (hHeld.2.2.2.2.1), pw_cell_below (pw_below_drewN (Below.refl _ _) _) (hHeld.2.2.2.2.2)⟩ (fun hHeld => ?_)
          clear hK K
          refine norm_ (a' := ?_) ?_ ?_
          rotate_left
          · show Act.put _ (some 80) _ = _
            simp only [Act.put, List.setIfInBounds_toArray, List.set_cons_zero, List.set_cons_succ, i64_w, i32_w]
            rfl
          exact norm_ (by simp only [putAll, Act.put, List.setIfInBounds_toArray, List.set_cons_zero, List.set_cons_succ]) (hCont (wd.heap.size, wd.heap.size + 1) _ ⟨(by repeat (first | exact Below.refl _ _ | apply below_alloc | apply pw_below_drewN)), h2old rfl, h2new rfl, Nat.le_refl _, Nat.le_succ _⟩)
      · skip
        refine value_ (w1 := ?_) (v := ?_) (by rfl) rfl ?_ ?_
        rotate_left 2
        · go_simp
          constructor
          · rfl
          · rfl
        refine hK.out _ _ ⟨pw_cell_below (below_alloc (Below.refl _ _) _) (hHeld.1), pw_cell_below (below_alloc (Below.refl _ _) _) (hHeld.2.1), pw_cell_below (below_alloc (Below.refl _ _) _) (hHeld.2.2.1), pw_cell_below (below_alloc (Below.refl _ _) _) (hHeld.2.2.2.1), pw_cell_below (below_alloc (Below.refl _ _) _) (hHeld.2.2.2.2.1), pw_cell_below (below_alloc (Below.refl _ _) _) (hHeld.2.2.2.2.2)⟩ (fun hHeld => ?_)
        clear hK K
        refine norm_ (a' := ?_) ?_ ?_
        rotate_left
        · show Act.put _ (some 84) _ = _
          simp only [Act.put, List.setIfInBounds_toArray, List.set_cons_zero, List.set_cons_succ, i64_w, i32_w]
          rfl
        refine two_ (i := 4) (j := 6) (Ni := some 80) (Nj := some 82) #[true, true, true, true, true, true, false, true, true, false, false, false, false, false, false] #[true, true, true, true, false, true, true, true, true, false, false, false, false, false, false] rfl rfl rfl rfl (by kernel_rfl) (by decide) (by decide) (fun K hK => ?_) (fun K hK => ?_)
        · skip
          refine goes_ Try.func36 (by kernel_rfl) rfl #[.pointer (some ⟨g, 0, none⟩), .int .i64 (vn : Int)] (by rfl) rfl rfl (by simp only [List.map_toArray, List.map_cons, List.map_nil]; rfl) ?_
          with_reducible refine (term_quiet (B := w.heap.size) (F := F6) (b := 0) (l := l) (HID.out.below (by repeat (first | exact Below.refl _ _ | apply below_alloc | apply pw_below_drewN))) _ mk HMK.out).mono ?_
          rintro e_ w' ⟨rfl, n3, rfl⟩
          refine ⟨_, rfl, ?_⟩
          refine hK.out _ _ ⟨pw_cell_below (pw_below_drewN (Below.refl _ _) _) (hHeld.1), pw_cell_below (pw_below_drewN (Below.refl _ _) _) (hHeld.2.1), pw_cell_below (pw_below_drewN (Below.refl _ _) _) (hHeld.2.2.1), pw_cell_below (pw_below_drewN (Below.refl _ _) _) (hHeld.2.2.2.1), pw_cell_below (pw_below_drewN (Below.refl _ _) _) (hHeld.2.2.2.2.1), pw_cell_below (pw_below_drewN (Below.refl _ _) _) (hHeld.2.2.2.2.2)⟩ (fun hHeld => ?_)
          clear hK K
          refine norm_ (a' := ?_) ?_ ?_
          rotate_left
          · show Act.put _ (some 80) _ = _
            simp only [Act.put, List.setIfInBounds_toArray, List.set_cons_zero, List.set_cons_succ, i64_w, i32_w]
            rfl
          refine one_ (i := 6) (N := some 82) #[true, true, true, true, true, true, true, true, true, false, false, false, false, false, false] rfl rfl (by kernel_rfl) (by decide) (fun K hK => ?_)
          refine value_ (w1 := ?_) (v := ?_) (by rfl) rfl ?_ ?_
          rotate_left 2
          · go_simp
            constructor
            · rfl
            · rfl
          refine hK.out _ _ ⟨pw_cell_below (below_alloc (Below.refl _ _) _) (hHeld.1), pw_cell_below (below_alloc (Below.refl _ _) _) (hHeld.2.1), pw_cell_below (below_alloc (Below.refl _ _) _) (hHeld.2.2.1), pw_cell_below (below_alloc (Below.refl _ _) _) (hHeld.2.2.2.1), pw_cell_below (below_alloc (Below.refl _ _) _) (hHeld.2.2.2.2.1), pw_cell_below (below_alloc (Below.refl _ _) _) (hHeld.2.2.2.2.2)⟩ (fun hHeld => ?_)
          clear hK K
          refine norm_ (a' := ?_) ?_ ?_
          rotate_left
          · show Act.put _ (some 82) _ = _
            simp only [Act.put, List.setIfInBounds_toArray, List.set_cons_zero, List.set_cons_succ, i64_w, i32_w]
            rfl
          exact norm_ (by simp only [putAll, Act.put, List.setIfInBounds_toArray, List.set_cons_zero, List.set_cons_succ]) (hCont (wd.heap.size + 1, wd.heap.size) _ ⟨(by repeat (first | exact Below.refl _ _ | apply below_alloc | apply pw_below_drewN)), h2new rfl, h2old rfl, Nat.le_succ _, Nat.le_refl _⟩)
        · skip
          refine value_ (w1 := ?_) (v := ?_) (by rfl) rfl ?_ ?_
          rotate_left 2
          · go_simp
            constructor
            · rfl
            · rfl
          refine hK.out _ _ ⟨pw_cell_below (below_alloc (Below.refl _ _) _) (hHeld.1), pw_cell_below (below_alloc (Below.refl _ _) _) (hHeld.2.1), pw_cell_below (below_alloc (Below.refl _ _) _) (hHeld.2.2.1), pw_cell_below (below_alloc (Below.refl _ _) _) (hHeld.2.2.2.1), pw_cell_below (below_alloc (Below.refl _ _) _) (hHeld.2.2.2.2.1), pw_cell_below (below_alloc (Below.refl _ _) _) (hHeld.2.2.2.2.2)⟩ (fun hHeld => ?_)
          clear hK K
          refine norm_ (a' := ?_) ?_ ?_
          rotate_left
          · show Act.put _ (some 82) _ = _
            simp only [Act.put, List.setIfInBounds_toArray, List.set_cons_zero, List.set_cons_succ, i64_w, i32_w]
            rfl
          refine one_ (i := 4) (N := some 80) #[true, true, true, true, true, true, true, true, true, false, false, false, false, false, false] rfl rfl (by kernel_rfl) (by decide) (fun K hK => ?_)
          refine goes_ Try.func36 (by kernel_rfl) rfl #[.pointer (some ⟨g, 0, none⟩), .int .i64 (vn : Int)] (by rfl) rfl rfl (by simp only [List.map_toArray, List.map_cons, List.map_nil]; rfl) ?_
          with_reducible refine (term_quiet (B := w.heap.size) (F := F6) (b := 0) (l := l) (HID.out.below (by repeat (first | exact Below.refl _ _ | apply below_alloc | apply pw_below_drewN))) _ mk HMK.out).mono ?_
          rintro e_ w' ⟨rfl, n3, rfl⟩
          refine ⟨_, rfl, ?_⟩
          refine hK.out _ _ ⟨pw_cell_below (pw_below_drewN (Below.refl _ _) _) (hHeld.1), pw_cell_below (pw_below_drewN (Below.refl _ _) _) (hHeld.2.1), pw_cell_below (pw_below_drewN (Below.refl _ _) _) (hHeld.2.2.1), pw_cell_below (pw_below_drewN (Below.refl _ _) _) (hHeld.2.2.2.1), pw_cell_below (pw_below_drewN (Below.refl _ _) _) (hHeld.2.2.2.2.1), pw_cell_below (pw_below_drewN (Below.refl _ _) _) (hHeld.2.2.2.2.2)⟩ (fun hHeld => ?_)
          clear hK K
          refine norm_ (a' := ?_) ?_ ?_
          rotate_left
          · show Act.put _ (some 80) _ = _
            simp only [Act.put, List.setIfInBounds_toArray, List.set_cons_zero, List.set_cons_succ, i64_w, i32_w]
            rfl
          exact norm_ (by simp only [putAll, Act.put, List.setIfInBounds_toArray, List.set_cons_zero, List.set_cons_succ]) (hCont (wd.heap.size + 1, wd.heap.size) _ ⟨(by repeat (first | exact Below.refl _ _ | apply below_alloc | apply pw_below_drewN)), h2new rfl, h2old rfl, Nat.le_succ _, Nat.le_refl _⟩)
    rintro ⟨b1, b2⟩ w4 ⟨hb4, hx1, hx2, hge1, hge2⟩
    have HB4 := Aside0.mk hb4
    have HX1 := Aside0.mk hx1
    have HX2 := Aside0.mk hx2
    have HGE1 := Aside0.mk hge1
    have HGE2 := Aside0.mk hge2
    clear hb4 hx1 hx2 hge1 hge2
    have hHeld : w4.cell? ⟨ge, 0, none⟩ = some (Value.int .i64 1) ∧ w4.cell? ⟨ge, 1, none⟩ = some (Value.int .i64 9) ∧ w4.cell? ⟨ge, 2, none⟩ = some (Value.int .i64 9) ∧ w4.cell? ⟨ge, 3, none⟩ = some (Value.string ⟨#[]⟩) ∧ w4.cell? ⟨ge, 4, none⟩ = some (Value.slice none 0 0) ∧ w4.cell? ⟨ge, 5, none⟩ = some (Value.int .i64 0) := ⟨pw_cell_below HB4.out (HHD.out.1), pw_cell_below HB4.out (HHD.out.2.1), pw_cell_below HB4.out (HHD.out.2.2.1), pw_cell_below HB4.out (HHD.out.2.2.2.1), pw_cell_below HB4.out (HHD.out.2.2.2.2.1), pw_cell_below HB4.out (HHD.out.2.2.2.2.2)⟩
    refine norm_ (a' := ?_) ?_ ?_
    rotate_left
    · simp only [putAll, Act.put, List.setIfInBounds_toArray, List.set_cons_zero, List.set_cons_succ]
      rfl
    refine last_ (i := 9) (N := some 85) #[true, true, true, true, true, true, true, true, true, true, false, false, false, false, false] rfl rfl (by kernel_rfl) (by decide) (fun K hK => ?_)
    have hl4 := HLD.out.below HB4.out
    have hput4 := put_live hl4 (vn : Int) (mk) (some ⟨b1, 0, none⟩) 1 [tp] (some ⟨b2, 0, none⟩) 1 [(⟨1, 9, 9, ⟨#[]⟩, [], 0⟩ : S77)] (fun W_ hk_ => C_ints (blk_kept hk_ HX1.out (fun hf_ => by have := HLT2.out _ hf_; have := HGE1.out; omega))) (Nat.le_refl _) (by simp) (fun W_ hk_ => C_entry (blk_kept hk_ HX2.out (fun hf_ => by have := HLT2.out _ hf_; have := HGE2.out; omega))) (Nat.le_refl _) (by simp) (fun x hx => by simp at hx; subst hx; decide)
    simp only [List.length_singleton] at hput4
    refine goes_ Try.func32 (by kernel_rfl) rfl #[.pointer (some ⟨g, 0, none⟩), .int .i64 (vn : Int), .int .i64 mk, .slice (some ⟨b1, 0, none⟩) 1 1, .slice (some ⟨b2, 0, none⟩) 1 1] (by rfl) rfl rfl (by simp only [List.map_toArray, List.map_cons, List.map_nil]; rfl) ?_
    with_reducible refine (hput4).mono ?_
    rintro e_ w7 ⟨F7, rfl, hl_, hf_, hk_⟩
    refine ⟨_, rfl, ?_⟩
    rw [HPN.out]
    rw [HPN.out] at hl_
    have HL6 := Aside0.mk hl_
    have HF6 := Aside0.mk hf_
    have HK6 := Aside0.mk hk_
    clear hl_ hf_ hk_ hput4 hl4
    refine hK.out _ _ ?_
    clear hK K
    refine norm_ (a' := ?_) ?_ ?_
    rotate_left
    · show Act.put _ (some 85) _ = _
      simp only [Act.put, List.setIfInBounds_toArray, List.set_cons_zero, List.set_cons_succ, i64_w, i32_w]
      rfl
    refine pure_ (i := 10) (N := some 75) (v := ?_) (a' := ?_) #[true, true, true, true, true, true, true, true, true, true, true, false, false, false, false] rfl rfl (by kernel_rfl) (fun _ _ _ h => h) (Or.inl ⟨by rfl, ?_⟩) ?_ ?_
    rotate_left
    · intro w'
      go_simp
      with_reducible rfl
    rotate_left
    · simp only [Act.put, List.setIfInBounds_toArray, List.set_cons_zero, List.set_cons_succ, i64_w, i32_w]
      rfl
    refine pure_ (i := 11) (N := some 86) (v := ?_) (a' := ?_) #[true, true, true, true, true, true, true, true, true, true, true, true, false, false, false] rfl rfl (by kernel_rfl) (fun _ _ _ h => h) (Or.inl ⟨by rfl, ?_⟩) ?_ ?_
    rotate_left
    · intro w'
      go_simp
      with_reducible rfl
    rotate_left
    · simp only [Act.put, List.setIfInBounds_toArray, List.set_cons_zero, List.set_cons_succ, i64_w, i32_w]
      rfl
    refine pure_ (i := 12) (N := some 87) (v := ?_) (a' := ?_) #[true, true, true, true, true, true, true, true, true, true, true, true, true, false, false] rfl rfl (by kernel_rfl) (fun _ _ _ h => h) (Or.inl ⟨by rfl, ?_⟩) ?_ ?_
    rotate_left
    · intro w'
      go_simp
      with_reducible rfl
    rotate_left
    · simp only [Act.put, List.setIfInBounds_toArray, List.set_cons_zero, List.set_cons_succ, i64_w, i32_w]
      rfl
    refine pure_ (i := 13) (N := some 14) (v := ?_) (a' := ?_) #[true, true, true, true, true, true, true, true, true, true, true, true, true, true, false] rfl rfl (by kernel_rfl) (fun _ _ _ h => h) (Or.inl ⟨by rfl, ?_⟩) ?_ ?_
    rotate_left
    · intro w'
      go_simp
      with_reducible rfl
    rotate_left
    · simp only [Act.put, List.setIfInBounds_toArray, List.set_cons_zero, List.set_cons_succ, i64_w, i32_w]
      rfl
    refine pure_ (i := 14) (N := some 15) (v := ?_) (a' := ?_) #[true, true, true, true, true, true, true, true, true, true, true, true, true, true, true] rfl rfl (by kernel_rfl) (fun _ _ _ h => h) (Or.inl ⟨by rfl, ?_⟩) ?_ ?_
    rotate_left
    · intro w'
      go_simp
      with_reducible rfl
    rotate_left
    · simp only [Act.put, List.setIfInBounds_toArray, List.set_cons_zero, List.set_cons_succ, i64_w, i32_w]
      rfl
    refine done_ (by kernel_rfl) ?_
    have HBc4 := Aside0.mk (below_then HYD.out HYD.out.size HB4.out)
    have HT7 := Aside0.mk (R_apart (R_out_below HTc.out HBc4.out) HK6.out HF6.out)
    have HE7 := Aside0.mk (R_apart (R_out_below HEc.out HBc4.out) HK6.out HF6.out)
    have BE7 := Aside0.mk (blk_kept HK6.out (blk_below BEc.out HBc4.out) HNc.out)
    have HN7 := Aside0.mk (show ¬ F7 ge from fun hf => by rcases HF6.out ge hf with h | h; exact HNc.out h; have := blk_lt (blk_below BEc.out HBc4.out); omega)
    obtain ⟨l2, hl2⟩ : ∃ l2, l.take vn ++ [(⟨tp, (⟨1, 9, 9, ⟨#[]⟩, [], 0⟩ : S77)⟩ : S105)] = l2 := ⟨_, rfl⟩
    rw [hl2] at HL6
    have hl2n : l2.length = vn + 1 := by rw [← hl2, List.length_append, List.length_take, List.length_singleton]; omega
    have HM2 := Aside0.mk (show ∀ x ∈ l2, x.f1.f4.length < 17592186044416 from fun x hx => by
      rw [← hl2] at hx
      rcases List.mem_append.1 hx with hx | hx
      · exact HMM.out x (List.mem_of_mem_take hx)
      · simp only [List.mem_singleton] at hx; subst hx; simp)
    have HEN := Aside0.mk (show en 0 l2 ((vn : Int) + 1) = (⟨1, 9, 9, ⟨#[]⟩, [], 0⟩ : S77) from by
      have h2 := rd105_at l2 vn (by omega)
      unfold en
      rw [if_pos (by omega), show (vn : Int) + 1 - 0 - 1 = (vn : Int) by omega, h2]
      simp only [← hl2]
      rw [List.getElem_append_right (by rw [List.length_take]; omega)]
      simp)
    have HTK := Aside0.mk (show l2.map (·.f0) = ts.take vn ++ [tp] by rw [← hl2, HT1.out, List.map_append, List.map_take]; rfl)
    have HEK := Aside0.mk (show l2.map (·.f1) = es.take vn ++ [(⟨1, 9, 9, ⟨#[]⟩, [], 0⟩ : S77)] by rw [← hl2, HE1.out, List.map_append, List.map_take]; rfl)
    have HI7 := Aside0.mk HL6.out.1
    clear HLD HID HLT2 BE HYD HHD HTc HEc BEc HNc HLc hl2
    go_upto_region 19 with (first
      | (go_at_call 42; refine (from_calls (B := w.heap.size) (F := F7) (b := 0) (l := l2) HI7.out HM2.out 1 (by omega) (by omega)).mono ?_; rintro e_ w8 ⟨Au, cu, Am, cm, us, ms, rfl, ht_, he_, hb_, hus, hms⟩; have HUR := Aside0.mk ht_; have HMR := Aside0.mk he_; have HB8 := Aside0.mk hb_; have HUS := Aside0.mk hus; have HMS := Aside0.mk hms; clear ht_ he_ hb_ hus hms)
      | (go_at_call 46; refine (entry_calls (B := w.heap.size) (F := F7) (b := 0) (l := l2) (HI7.out.below HB8.out) HM2.out ((vn : Int) + 1)).mono ?_; rintro e_ w9 ⟨A5, c5, rfl, hx_, hb_⟩; rw [HEN.out, show decide ((0 : Int) < (vn : Int) + 1 ∧ (vn : Int) + 1 ≤ 0 + (l2.length : Int)) = true from decide_eq_true (by omega)]; rw [HEN.out] at hx_; have HX9 := Aside0.mk hx_; have HB9 := Aside0.mk hb_; clear hx_ hb_))
    generalize hwe : World.alloc w9 _ = we
    have hbe9 : Below w9.heap.size w9 we := by rw [← hwe]; exact below_alloc (Below.refl _ _) _
    have hbx9 : we.heap[w9.heap.size]? = some (.cells #[.int .i64 1, .int .i64 9, .int .i64 9, .string ⟨#[]⟩, .slice A5 0 c5, .int .i64 0] 77 (0, 0)) := by rw [← hwe]; exact heap_alloc_new _ _
    obtain ⟨gx, hgx⟩ : ∃ gx, w9.heap.size = gx := ⟨_, rfl⟩
    rw [hgx] at hbx9 ⊢
    have HBA := Aside0.mk (below_then HB8.out HB8.out.size (below_then HB9.out HB9.out.size (below_drew hbe9)))
    have HBB := Aside0.mk (below_then HB9.out HB9.out.size (below_drew hbe9))
    have HBC := Aside0.mk (below_drew hbe9)
    have hfx : fromIx 0 l2 1 = 0 := by unfold fromIx; simp
    have hus : us = ts.take vn ++ [tp] := by rw [HUS.out, hfx, List.drop_zero, HTK.out]
    have hms : ms = es.take vn ++ [(⟨1, 9, 9, ⟨#[]⟩, [], 0⟩ : S77)] := by rw [HMS.out, hfx, List.drop_zero, HEK.out]
    obtain ⟨tk, htk⟩ : ∃ tk, ts.take vn = tk := ⟨_, rfl⟩
    obtain ⟨ek, hek⟩ : ∃ ek, es.take vn = ek := ⟨_, rfl⟩
    have htkl : tk.length = vn := by rw [← htk, List.length_take]; omega
    have hekl : ek.length = vn := by rw [← hek, List.length_take]; omega
    rw [htk] at hus
    rw [hek] at hms
    have hul : us.length = vn + 1 := by rw [hus, List.length_append, htkl]; rfl
    have hml : ms.length = vn + 1 := by rw [hms, List.length_append, hekl]; rfl
    have hut : us.take vn = tk := by rw [hus, ← htkl, List.take_left]
    have hmt : ms.take vn = ek := by rw [hms, ← hekl, List.take_left]
    have hcU := (Kd.R_reads' HUR.out).2.2
    have hcM := (Kd.R_reads' HMR.out).2.2
    obtain ⟨adu, rfl, hxu⟩ := Kd.at_int hcU (vn : Int) (by omega) (by omega)
    have hrdu : rd us (vn : Int) = tp := by
      rw [rd_at_ us vn (by omega)]
      simp only [hus]
      rw [List.getElem_append_right (by omega)]
      simp
    rw [Int.toNat_natCast, hrdu] at hxu
    have HUC := Aside0.mk (pw_cell_below HBB.out hxu)
    have CUc := Aside0.mk (show tk.length ≤ cu by have := (Kd.R_reads' HUR.out).2.1; omega)
    have CTc := Aside0.mk (show tk.length ≤ c1 by have := (Kd.R_reads' HT7.out).2.1; omega)
    have CMc := Aside0.mk (show ek.length ≤ cm by have := (Kd.R_reads' HMR.out).2.1; omega)
    have CLc := Aside0.mk (show ek.length ≤ c2 by have := (Kd.R_reads' HE7.out).2.1; omega)
    have CU : Aside0 (Kd.C (Kd.int .i64) we.drew (some adu) tk.length tk) := ⟨by have h := Kd.C_take hcU (m := vn) (by omega); rw [hut] at h; exact Kd.C_below h HBB.out⟩
    have CT : Aside0 (Kd.C (Kd.int .i64) we.drew (some ad) tk.length tk) := ⟨by have h := Kd.C_take (Kd.R_reads' HT7.out).2.2 (m := vn) (by omega); rw [htk] at h; exact Kd.C_below h HBA.out⟩
    have CM : Aside0 (Kd.C k77 we.drew Am ek.length ek) := ⟨by have h := Kd.C_take hcM (m := vn) (by omega); rw [hmt] at h; exact Kd.C_below h HBB.out⟩
    have CL : Aside0 (Kd.C k77 we.drew A2 ek.length ek) := ⟨by have h := Kd.C_take (Kd.R_reads' HE7.out).2.2 (m := vn) (by omega); rw [hek] at h; exact Kd.C_below h HBA.out⟩
    have CX : Aside0 (Kd.C (Kd.int .i64) we.drew A5 ([] : List Int).length []) := ⟨Kd.C_below (Kd.R_reads' HX9.out).2.2 HBC.out⟩
    have HMK4 := Aside0.mk (show ∀ x ∈ ek, x.f4.length ≤ 1000000 from fun x hx => by
      rw [← hek] at hx
      have hx2 := List.mem_of_mem_take hx
      rw [HE1.out] at hx2
      obtain ⟨y, hy, rfl⟩ := List.mem_map.1 hx2
      obtain ⟨q, hq, rfl⟩ := List.mem_iff_getElem.1 hy
      rw [HG.out.2.2 q hq]
      simp)
    have hcut1 : ∀ W_ : World, (Instr.slice 24 (.slice (some adu) us.length cu) none (some (.int .i64 (vn : Int))) none).run Try.prog W_ = .ok (.slice (some adu) tk.length cu) W_ := by rw [htkl]; exact cut_pre 24 3 Try.underlying24 info3 _ _ _ _ (by omega) ((Kd.R_reads' HUR.out).2.1)
    have hcut2 : ∀ W_ : World, (Instr.slice 24 (.slice (some ad) (p + 1) c1) none (some (.int .i64 (vn : Int))) none).run Try.prog W_ = .ok (.slice (some ad) tk.length c1) W_ := by rw [htkl, ← htl]; exact cut_pre 24 3 Try.underlying24 info3 _ _ _ _ (by omega) ((Kd.R_reads' HT7.out).2.1)
    have hcut3 : ∀ W_ : World, (Instr.slice 52 (.slice Am ms.length cm) none (some (.int .i64 (vn : Int))) none).run Try.prog W_ = .ok (.slice Am ek.length cm) W_ := by rw [hekl]; exact cut_pre 52 77 Try.underlying52 info77f _ _ _ _ (by omega) ((Kd.R_reads' HMR.out).2.1)
    have hcut4 : ∀ W_ : World, (Instr.slice 52 (.slice A2 (p + 1) c2) none (some (.int .i64 (vn : Int))) none).run Try.prog W_ = .ok (.slice A2 ek.length c2) W_ := by rw [hekl, ← hel]; exact cut_pre 52 77 Try.underlying52 info77f _ _ _ _ (by omega) ((Kd.R_reads' HE7.out).2.1)
    have BX := Aside0.mk (show we.drew.heap[gx]? = some (.cells #[.int .i64 1, .int .i64 9, .int .i64 9, .string ⟨#[]⟩, .slice A5 0 c5, .int .i64 0] 77 (0, 0)) from hbx9)
    have BE := Aside0.mk (show we.drew.heap[ge]? = some (.cells #[.int .i64 1, .int .i64 9, .int .i64 9, .string ⟨#[]⟩, .slice none 0 0, .int .i64 0] 77 (0, 0)) from blk_below BE7.out HBA.out)
    have HI9 := Aside0.mk (HL6.out.1.below HBA.out)
    have hlast : Calls Try.prog 35 #[.pointer (some ⟨g, 0, none⟩)] we.drew fun e w' => e = .returned (.int .i64 ((vn : Int) + 1)) ∧ Drawn0 we.drew w' := (last0 HI9.out).mono (by rintro e w' ⟨rfl, hd⟩; exact ⟨by rw [hl2n]; rfl, hd⟩)
    have HBW := Aside0.mk (below_then HL6.out.2.2 HL6.out.2.2.size HBA.out)
    have HTKB := Aside0.mk (show tk.length ≤ 1000000 by omega)
    have HEKB := Aside0.mk (show ek.length ≤ 1000000 by omega)
    have hwv1 : wrap64 ((vn : Int) + 1) = (vn : Int) + 1 := by unfold wrap64; omega
    have hwv2 : IntKind.i64.wrap ((vn : Int) + 1) = (vn : Int) + 1 := by rw [i64_w]; exact hwv1
    have hqu1 := eq_true (show 0 ≤ (vn : Int) by omega)
    have hqu2 := eq_true (show (vn : Int) < (us.length : Int) by omega)
    have hqu3 := eq_true (show vn < us.length by omega)
    clear htkl hekl hcU hcM hus hms hut hmt hrdu hxu htk hek hbe9 hbx9 hwe hfx HUS HMS HTK HEK hul hml hl2n HT7 HE7 BE7 HUR HMR HX9 HB8 HB9 HBA HBB HBC HI7 HM2 HEN HL6
    refine start_ (n := 50) (S := fun w' => w'.cell? ⟨gx, 0, none⟩ = some (Value.int .i64 1) ∧ w'.cell? ⟨gx, 1, none⟩ = some (Value.int .i64 9) ∧ w'.cell? ⟨gx, 2, none⟩ = some (Value.int .i64 9) ∧ w'.cell? ⟨gx, 3, none⟩ = some (Value.string ⟨#[]⟩) ∧ w'.cell? ⟨gx, 4, none⟩ = some (Value.slice A5 0 c5) ∧ w'.cell? ⟨gx, 5, none⟩ = some (Value.int .i64 0) ∧ w'.cell? ⟨ge, 0, none⟩ = some (Value.int .i64 1) ∧ w'.cell? ⟨ge, 1, none⟩ = some (Value.int .i64 9) ∧ w'.cell? ⟨ge, 2, none⟩ = some (Value.int .i64 9) ∧ w'.cell? ⟨ge, 3, none⟩ = some (Value.string ⟨#[]⟩) ∧ w'.cell? ⟨ge, 4, none⟩ = some (Value.slice none 0 0) ∧ w'.cell? ⟨ge, 5, none⟩ = some (Value.int .i64 0) ∧ w'.cell? (adu.add vn) = some (Value.int .i64 tp)) (ds := []) #[false, false, false, false, false, false, false, false, false, false, false, false, false, false, false, false, false, false, false, false, false, false, false, false, false, false, false, false, false, false, false, false, false, false, false, false, false, false, false, false, false, false, false, false, false, false, false, false, false, false] (by kernel_rfl) rfl rfl ⟨(blk_cell BX.out 0).trans rfl, (blk_cell BX.out 1).trans rfl, (blk_cell BX.out 2).trans rfl, (blk_cell BX.out 3).trans rfl, (blk_cell BX.out 4).trans rfl, (blk_cell BX.out 5).trans rfl, (blk_cell BE.out 0).trans rfl, (blk_cell BE.out 1).trans rfl, (blk_cell BE.out 2).trans rfl, (blk_cell BE.out 3).trans rfl, (blk_cell BE.out 4).trans rfl, (blk_cell BE.out 5).trans rfl, HUC.out⟩ (fun hHeld => ?_)
    generalize we.drew = wd at BX BE HUC CU CT CM CL CX HI9 hlast HBW hHeld ⊢
    refine pure_ (i := 0) (N := some 100) (v := ?_) (a' := ?_) #[true, false, false, false, false, false, false, false, false, false, false, false, false, false, false, false, false, false, false, false, false, false, false, false, false, false, false, false, false, false, false, false, false, false, false, false, false, false, false, false, false, false, false, false, false, false, false, false, false, false] rfl rfl (by kernel_rfl) (fun _ _ _ h => h) (Or.inl ⟨by rfl, ?_⟩) ?_ ?_
    rotate_left
    · intro w'
      go_simp
      with_reducible rfl
    rotate_left
    · simp only [Act.put, List.setIfInBounds_toArray, List.set_cons_zero, List.set_cons_succ, i64_w, i32_w]
      rfl
    refine pure_ (i := 1) (N := some 101) (v := ?_) (a' := ?_) #[true, true, false, false, false, false, false, false, false, false, false, false, false, false, false, false, false, false, false, false, false, false, false, false, false, false, false, false, false, false, false, false, false, false, false, false, false, false, false, false, false, false, false, false, false, false, false, false, false, false] rfl rfl (by kernel_rfl) (fun _ _ _ h => h) (Or.inl ⟨by rfl, ?_⟩) ?_ ?_
    rotate_left
    · intro w'
      go_simp
      with_reducible rfl
    rotate_left
    · simp only [Act.put, List.setIfInBounds_toArray, List.set_cons_zero, List.set_cons_succ, i64_w, i32_w]
      rfl
    refine pure_ (i := 2) (N := some 102) (v := ?_) (a' := ?_) #[true, true, true, false, false, false, false, false, false, false, false, false, false, false, false, false, false, false, false, false, false, false, false, false, false, false, false, false, false, false, false, false, false, false, false, false, false, false, false, false, false, false, false, false, false, false, false, false, false, false] rfl rfl (by kernel_rfl) (fun _ _ _ h => h) (Or.inl ⟨by rfl, ?_⟩) ?_ ?_
    rotate_left
    · intro w'
      go_simp
      with_reducible rfl
    rotate_left
    · simp only [Act.put, List.setIfInBounds_toArray, List.set_cons_zero, List.set_cons_succ, i64_w, i32_w]
      rfl
    refine pure_ (i := 3) (N := some 103) (v := ?_) (a' := ?_) #[true, true, true, true, false, false, false, false, false, false, false, false, false, false, false, false, false, false, false, false, false, false, false, false, false, false, false, false, false, false, false, false, false, false, false, false, false, false, false, false, false, false, false, false, false, false, false, false, false, false] rfl rfl (by kernel_rfl) (fun _ _ _ h => h) (Or.inl ⟨by rfl, ?_⟩) ?_ ?_
    rotate_left
    · intro w'
      go_simp
      with_reducible rfl
    rotate_left
    · simp only [Act.put, List.setIfInBounds_toArray, List.set_cons_zero, List.set_cons_succ, i64_w, i32_w]
      rfl
    refine pure_ (i := 4) (N := some 104) (v := ?_) (a' := ?_) #[true, true, true, true, true, false, false, false, false, false, false, false, false, false, false, false, false, false, false, false, false, false, false, false, false, false, false, false, false, false, false, false, false, false, false, false, false, false, false, false, false, false, false, false, false, false, false, false, false, false] rfl rfl (by kernel_rfl) (fun _ _ _ h => h) (Or.inl ⟨by rfl, ?_⟩) ?_ ?_
    rotate_left
    · intro w'
      go_simp
      with_reducible rfl
    rotate_left
    · simp only [Act.put, List.setIfInBounds_toArray, List.set_cons_zero, List.set_cons_succ, i64_w, i32_w]
      rfl
    refine pure_ (i := 5) (N := some 105) (v := ?_) (a' := ?_) #[true, true, true, true, true, true, false, false, false, false, false, false, false, false, false, false, false, false, false, false, false, false, false, false, false, false, false, false, false, false, false, false, false, false, false, false, false, false, false, false, false, false, false, false, false, false, false, false, false, false] rfl rfl (by kernel_rfl) (fun _ _ _ h => h) (Or.inl ⟨by rfl, ?_⟩) ?_ ?_
    rotate_left
    · intro w'
      go_simp
      with_reducible rfl
    rotate_left
    · simp only [Act.put, List.setIfInBounds_toArray, List.set_cons_zero, List.set_cons_succ, i64_w, i32_w]
      rfl
    refine pure_ (i := 6) (N := some 106) (v := ?_) (a' := ?_) #[true, true, true, true, true, true, true, false, false, false, false, false, false, false, false, false, false, false, false, false, false, false, false, false, false, false, false, false, false, false, false, false, false, false, false, false, false, false, false, false, false, false, false, false, false, false, false, false, false, false] rfl rfl (by kernel_rfl) (fun _ _ _ h => h) (Or.inl ⟨by rfl, ?_⟩) ?_ ?_
    rotate_left
    · intro w'
      go_simp
      with_reducible rfl
    rotate_left
    · simp only [Act.put, List.setIfInBounds_toArray, List.set_cons_zero, List.set_cons_succ, i64_w, i32_w]
      rfl
    refine pure_ (i := 7) (N := some 107) (v := ?_) (a' := ?_) #[true, true, true, true, true, true, true, true, false, false, false, false, false, false, false, false, false, false, false, false, false, false, false, false, false, false, false, false, false, false, false, false, false, false, false, false, false, false, false, false, false, false, false, false, false, false, false, false, false, false] rfl rfl (by kernel_rfl) (fun _ _ _ h => h) (Or.inl ⟨by rfl, ?_⟩) ?_ ?_
    rotate_left
    · intro w'
      go_simp
      with_reducible rfl
    rotate_left
    · simp only [Act.put, List.setIfInBounds_toArray, List.set_cons_zero, List.set_cons_succ, i64_w, i32_w]
      rfl
    refine pure_ (i := 8) (N := some 108) (v := ?_) (a' := ?_) #[true, true, true, true, true, true, true, true, true, false, false, false, false, false, false, false, false, false, false, false, false, false, false, false, false, false, false, false, false, false, false, false, false, false, false, false, false, false, false, false, false, false, false, false, false, false, false, false, false, false] rfl rfl (by kernel_rfl) (fun _ _ _ h => h) (Or.inl ⟨by rfl, ?_⟩) ?_ ?_
    rotate_left
    · intro w'
      go_simp
      with_reducible rfl
    rotate_left
    · simp only [Act.put, List.setIfInBounds_toArray, List.set_cons_zero, List.set_cons_succ, i64_w, i32_w]
      rfl
    refine pure_ (i := 9) (N := some 109) (v := ?_) (a' := ?_) #[true, true, true, true, true, true, true, true, true, true, false, false, false, false, false, false, false, false, false, false, false, false, false, false, false, false, false, false, false, false, false, false, false, false, false, false, false, false, false, false, false, false, false, false, false, false, false, false, false, false] rfl rfl (by kernel_rfl) (fun _ _ _ h => h) (Or.inl ⟨by rfl, ?_⟩) ?_ ?_
    rotate_left
    · intro w'
      go_simp
      with_reducible rfl
    rotate_left
    · simp only [Act.put, List.setIfInBounds_toArray, List.set_cons_zero, List.set_cons_succ, i64_w, i32_w]
      rfl
    refine pure_ (i := 11) (N := some 111) (v := ?_) (a' := ?_) #[true, true, true, true, true, true, true, true, true, true, false, true, false, false, false, false, false, false, false, false, false, false, false, false, false, false, false, false, false, false, false, false, false, false, false, false, false, false, false, false, false, false, false, false, false, false, false, false, false, false] rfl rfl (by kernel_rfl) (fun _ _ _ h => h) (Or.inl ⟨by rfl, ?_⟩) ?_ ?_
    rotate_left
    · intro w'
      go_simp
      with_reducible rfl
    rotate_left
    · simp only [Act.put, List.setIfInBounds_toArray, List.set_cons_zero, List.set_cons_succ, i64_w, i32_w]
      rfl
    refine pure_ (i := 12) (N := some 112) (v := ?_) (a' := ?_) #[true, true, true, true, true, true, true, true, true, true, false, true, true, false, false, false, false, false, false, false, false, false, false, false, false, false, false, false, false, false, false, false, false, false, false, false, false, false, false, false, false, false, false, false, false, false, false, false, false, false] rfl rfl (by kernel_rfl) (fun _ _ _ h => h) (Or.inl ⟨by rfl, ?_⟩) ?_ ?_
    rotate_left
    · intro w'
      go_simp
      with_reducible rfl
    rotate_left
    · simp only [Act.put, List.setIfInBounds_toArray, List.set_cons_zero, List.set_cons_succ, i64_w, i32_w]
      rfl
    refine one_ (i := 10) (N := some 110) #[true, true, true, true, true, true, true, true, true, true, true, true, true, false, false, false, false, false, false, false, false, false, false, false, false, false, false, false, false, false, false, false, false, false, false, false, false, false, false, false, false, false, false, false, false, false, false, false, false, false] rfl rfl (by kernel_rfl) (by decide) (fun K hK => ?_)
    refine goes_ Try.func35 (by kernel_rfl) rfl #[.pointer (some ⟨g, 0, none⟩)] (by rfl) rfl rfl (by simp only [List.map_toArray, List.map_cons, List.map_nil]; rfl) ?_
    with_reducible refine (hlast).mono ?_
    rintro e_ w' ⟨rfl, ⟨n10, rfl⟩⟩
    refine ⟨_, rfl, ?_⟩
    refine hK.out _ _ ⟨pw_cell_below (pw_below_drewN (Below.refl _ _) _) (hHeld.1), pw_cell_below (pw_below_drewN (Below.refl _ _) _) (hHeld.2.1), pw_cell_below (pw_below_drewN (Below.refl _ _) _) (hHeld.2.2.1), pw_cell_below (pw_below_drewN (Below.refl _ _) _) (hHeld.2.2.2.1), pw_cell_below (pw_below_drewN (Below.refl _ _) _) (hHeld.2.2.2.2.1), pw_cell_below (pw_below_drewN (Below.refl _ _) _) (hHeld.2.2.2.2.2.1), pw_cell_below (pw_below_drewN (Below.refl _ _) _) (hHeld.2.2.2.2.2.2.1), pw_cell_below (pw_below_drewN (Below.refl _ _) _) (hHeld.2.2.2.2.2.2.2.1), pw_cell_below (pw_below_drewN (Below.refl _ _) _) (hHeld.2.2.2.2.2.2.2.2.1), pw_cell_below (pw_below_drewN (Below.refl _ _) _) (hHeld.2.2.2.2.2.2.2.2.2.1), pw_cell_below (pw_below_drewN (Below.refl _ _) _) (hHeld.2.2.2.2.2.2.2.2.2.2.1), pw_cell_below (pw_below_drewN (Below.refl _ _) _) (hHeld.2.2.2.2.2.2.2.2.2.2.2.1), pw_cell_below (pw_below_drewN (Below.refl _ _) _) (hHeld.2.2.2.2.2.2.2.2.2.2.2.2)⟩ (fun hHeld => ?_)
    clear hK K
    refine norm_ (a' := ?_) ?_ ?_
    rotate_left
    · show Act.put _ (some 110) _ = _
      simp only [Act.put, List.setIfInBounds_toArray, List.set_cons_zero, List.set_cons_succ, i64_w, i32_w]
      rfl
    refine pure_ (i := 13) (N := some 113) (v := ?_) (a' := ?_) #[true, true, true, true, true, true, true, true, true, true, true, true, true, true, false, false, false, false, false, false, false, false, false, false, false, false, false, false, false, false, false, false, false, false, false, false, false, false, false, false, false, false, false, false, false, false, false, false, false, false] rfl rfl (by kernel_rfl) (fun _ _ _ h => h) (Or.inl ⟨by rfl, ?_⟩) ?_ ?_
    rotate_left
    · intro w'
      go_simp
      with_reducible rfl
    rotate_left
    · simp only [Act.put, List.setIfInBounds_toArray, List.set_cons_zero, List.set_cons_succ, i64_w, i32_w]
      rfl
    refine pure_ (i := 14) (N := some 114) (v := ?_) (a' := ?_) #[true, true, true, true, true, true, true, true, true, true, true, true, true, true, true, false, false, false, false, false, false, false, false, false, false, false, false, false, false, false, false, false, false, false, false, false, false, false, false, false, false, false, false, false, false, false, false, false, false, false] rfl rfl (by kernel_rfl) (fun _ _ _ h => h) (Or.inl ⟨by rfl, ?_⟩) ?_ ?_
    rotate_left
    · intro w'
      go_simp
      with_reducible rfl
    rotate_left
    · simp only [Act.put, List.setIfInBounds_toArray, List.set_cons_zero, List.set_cons_succ, i64_w, i32_w]
      rfl
    refine pure_ (i := 15) (N := some 115) (v := ?_) (a' := ?_) #[true, true, true, true, true, true, true, true, true, true, true, true, true, true, true, true, false, false, false, false, false, false, false, false, false, false, false, false, false, false, false, false, false, false, false, false, false, false, false, false, false, false, false, false, false, false, false, false, false, false] rfl rfl (by kernel_rfl) (fun _ _ _ h => h) (Or.inl ⟨by rfl, ?_⟩) ?_ ?_
    rotate_left
    · intro w'
      go_simp
      with_reducible rfl
    rotate_left
    · simp only [Act.put, List.setIfInBounds_toArray, List.set_cons_zero, List.set_cons_succ, i64_w, i32_w]
      rfl
    refine pure_ (i := 16) (N := some 116) (v := ?_) (a' := ?_) #[true, true, true, true, true, true, true, true, true, true, true, true, true, true, true, true, true, false, false, false, false, false, false, false, false, false, false, false, false, false, false, false, false, false, false, false, false, false, false, false, false, false, false, false, false, false, false, false, false, false] rfl rfl (by kernel_rfl) (fun _ _ _ h => h) (Or.inl ⟨by rfl, ?_⟩) ?_ ?_
    rotate_left
    · intro w'
      go_simp
      with_reducible rfl
    rotate_left
    · simp only [Act.put, List.setIfInBounds_toArray, List.set_cons_zero, List.set_cons_succ, i64_w, i32_w]
      rfl
    refine pure_ (i := 17) (N := some 117) (v := ?_) (a' := ?_) #[true, true, true, true, true, true, true, true, true, true, true, true, true, true, true, true, true, true, false, false, false, false, false, false, false, false, false, false, false, false, false, false, false, false, false, false, false, false, false, false, false, false, false, false, false, false, false, false, false, false] rfl rfl (by kernel_rfl) (fun _ _ _ h => h) (Or.inl ⟨by rfl, ?_⟩) ?_ ?_
    rotate_left
    · intro w'
      go_simp
      with_reducible rfl
    rotate_left
    · simp only [Act.put, List.setIfInBounds_toArray, List.set_cons_zero, List.set_cons_succ, i64_w, i32_w]
      rfl
    refine pure_ (i := 18) (N := some 118) (v := ?_) (a' := ?_) #[true, true, true, true, true, true, true, true, true, true, true, true, true, true, true, true, true, true, true, false, false, false, false, false, false, false, false, false, false, false, false, false, false, false, false, false, false, false, false, false, false, false, false, false, false, false, false, false, false, false] rfl rfl (by kernel_rfl) (fun _ _ _ h => h) (Or.inl ⟨by rfl, ?_⟩) ?_ ?_
    rotate_left
    · intro w'
      go_simp
      with_reducible rfl
    rotate_left
    · simp only [Act.put, List.setIfInBounds_toArray, List.set_cons_zero, List.set_cons_succ, i64_w, i32_w]
      rfl
    refine take_ (i := 19) (N := some 119) (v := ?_) (a' := ?_) #[true, true, true, true, true, true, true, true, true, true, true, true, true, true, true, true, true, true, true, true, false, false, false, false, false, false, false, false, false, false, false, false, false, false, false, false, false, false, false, false, false, false, false, false, false, false, false, false, false, false] rfl rfl (by kernel_rfl) (fun _ _ _ h => h) (Or.inl ⟨by rfl, ?_⟩) hHeld ?_ ?_
    rotate_left
    · rintro w' ⟨s0, s1, s2, s3, s4, s5, s6, s7, s8, s9, s10, s11, s12⟩
      go_simp
      with_reducible rfl
    rotate_left
    · simp only [Act.put, List.setIfInBounds_toArray, List.set_cons_zero, List.set_cons_succ, i64_w, i32_w]
      rfl
    refine take_ (i := 20) (N := some 120) (v := ?_) (a' := ?_) #[true, true, true, true, true, true, true, true, true, true, true, true, true, true, true, true, true, true, true, true, true, false, false, false, false, false, false, false, false, false, false, false, false, false, false, false, false, false, false, false, false, false, false, false, false, false, false, false, false, false] rfl rfl (by kernel_rfl) (fun _ _ _ h => h) (Or.inl ⟨by rfl, ?_⟩) hHeld ?_ ?_
    rotate_left
    · rintro w' ⟨s0, s1, s2, s3, s4, s5, s6, s7, s8, s9, s10, s11, s12⟩
      go_simp
      with_reducible rfl
    rotate_left
    · simp only [Act.put, List.setIfInBounds_toArray, List.set_cons_zero, List.set_cons_succ, i64_w, i32_w]
      rfl
    refine one_ (i := 21) (N := some 121) #[true, true, true, true, true, true, true, true, true, true, true, true, true, true, true, true, true, true, true, true, true, true, false, false, false, false, false, false, false, false, false, false, false, false, false, false, false, false, false, false, false, false, false, false, false, false, false, false, false, false] rfl rfl (by kernel_rfl) (by decide) (fun K hK => ?_)
    have hse := same_entry A5 c5 none 0 (⟨1, 9, 9, ⟨#[]⟩, [], 0⟩ : S77) (wd.drewN n10) (Kd.C_below CX.out (pw_below_drewN (Below.refl _ _) _)) (Nat.zero_le _) (Kd.C_nil _ _) (Nat.le_refl _) (by simp)
    simp only [List.length_nil] at hse
    refine goes_ Try.func47 (by kernel_rfl) rfl #[.agg #[.int .i64 1, .int .i64 9, .int .i64 9, .string ⟨#[]⟩, .slice A5 0 c5, .int .i64 0], .agg #[.int .i64 1, .int .i64 9, .int .i64 9, .string ⟨#[]⟩, .slice none 0 0, .int .i64 0]] (by rfl) rfl rfl (by simp only [List.map_toArray, List.map_cons, List.map_nil]; rfl) ?_
    with_reducible refine (hse).mono ?_
    rintro e_ w21 ⟨rfl, hb21⟩
    refine ⟨_, rfl, ?_⟩
    have HB21 := Aside0.mk (below_then (pw_below_drewN (Below.refl _ _) _) (Nat.le_refl _) hb21 : Below wd.heap.size wd w21)
    refine hK.out _ _ ⟨pw_cell_below hb21 (hHeld.1), pw_cell_below hb21 (hHeld.2.1), pw_cell_below hb21 (hHeld.2.2.1), pw_cell_below hb21 (hHeld.2.2.2.1), pw_cell_below hb21 (hHeld.2.2.2.2.1), pw_cell_below hb21 (hHeld.2.2.2.2.2.1), pw_cell_below hb21 (hHeld.2.2.2.2.2.2.1), pw_cell_below hb21 (hHeld.2.2.2.2.2.2.2.1), pw_cell_below hb21 (hHeld.2.2.2.2.2.2.2.2.1), pw_cell_below hb21 (hHeld.2.2.2.2.2.2.2.2.2.1), pw_cell_below hb21 (hHeld.2.2.2.2.2.2.2.2.2.2.1), pw_cell_below hb21 (hHeld.2.2.2.2.2.2.2.2.2.2.2.1), pw_cell_below hb21 (hHeld.2.2.2.2.2.2.2.2.2.2.2.2)⟩ (fun hHeld => ?_)
    clear hK K
    refine norm_ (a' := ?_) ?_ ?_
    rotate_left
    · show Act.put _ (some 121) _ = _
      simp only [Act.put, List.setIfInBounds_toArray, List.set_cons_zero, List.set_cons_succ, i64_w, i32_w]
      rfl
    refine pure_ (i := 22) (N := some 122) (v := ?_) (a' := ?_) #[true, true, true, true, true, true, true, true, true, true, true, true, true, true, true, true, true, true, true, true, true, true, true, false, false, false, false, false, false, false, false, false, false, false, false, false, false, false, false, false, false, false, false, false, false, false, false, false, false, false] rfl rfl (by kernel_rfl) (fun _ _ _ h => h) (Or.inl ⟨by rfl, ?_⟩) ?_ ?_
    rotate_left
    · intro w'
      go_simp
      with_reducible rfl
    rotate_left
    · simp only [Act.put, List.setIfInBounds_toArray, List.set_cons_zero, List.set_cons_succ, i64_w, i32_w]
      rfl
    refine pure_ (i := 23) (N := some 123) (v := ?_) (a' := ?_) #[true, true, true, true, true, true, true, true, true, true, true, true, true, true, true, true, true, true, true, true, true, true, true, true, false, false, false, false, false, false, false, false, false, false, false, false, false, false, false, false, false, false, false, false, false, false, false, false, false, false] rfl rfl (by kernel_rfl) (fun _ _ _ h => h) (Or.inl ⟨by rfl, ?_⟩) ?_ ?_
    rotate_left
    · intro w'
      go_simp
      with_reducible rfl
    rotate_left
    · simp only [Act.put, List.setIfInBounds_toArray, List.set_cons_zero, List.set_cons_succ, i64_w, i32_w]
      rfl
    refine pure_ (i := 24) (N := some 124) (v := ?_) (a' := ?_) #[true, true, true, true, true, true, true, true, true, true, true, true, true, true, true, true, true, true, true, true, true, true, true, true, true, false, false, false, false, false, false, false, false, false, false, false, false, false, false, false, false, false, false, false, false, false, false, false, false, false] rfl rfl (by kernel_rfl) (fun _ _ _ h => h) (Or.inl ⟨by rfl, ?_⟩) ?_ ?_
    rotate_left
    · intro w'
      go_simp
      with_reducible rfl
    rotate_left
    · simp only [Act.put, List.setIfInBounds_toArray, List.set_cons_zero, List.set_cons_succ, i64_w, i32_w]
      rfl
    refine pure_ (i := 25) (N := some 125) (v := ?_) (a' := ?_) #[true, true, true, true, true, true, true, true, true, true, true, true, true, true, true, true, true, true, true, true, true, true, true, true, true, true, false, false, false, false, false, false, false, false, false, false, false, false, false, false, false, false, false, false, false, false, false, false, false, false] rfl rfl (by kernel_rfl) (fun _ _ _ h => h) (Or.inl ⟨by rfl, ?_⟩) ?_ ?_
    rotate_left
    · intro w'
      go_simp
      with_reducible rfl
    rotate_left
    · simp only [Act.put, List.setIfInBounds_toArray, List.set_cons_zero, List.set_cons_succ, i64_w, i32_w]
      rfl
    refine pure_ (i := 26) (N := some 126) (v := ?_) (a' := ?_) #[true, true, true, true, true, true, true, true, true, true, true, true, true, true, true, true, true, true, true, true, true, true, true, true, true, true, true, false, false, false, false, false, false, false, false, false, false, false, false, false, false, false, false, false, false, false, false, false, false, false] rfl rfl (by kernel_rfl) (fun _ _ _ h => h) (Or.inl ⟨by rfl, ?_⟩) ?_ ?_
    rotate_left
    · intro w'
      go_simp
      with_reducible rfl
    rotate_left
    · simp only [Act.put, List.setIfInBounds_toArray, List.set_cons_zero, List.set_cons_succ, i64_w, i32_w]
      rfl
    refine pure_ (i := 27) (N := some 127) (v := ?_) (a' := ?_) #[true, true, true, true, true, true, true, true, true, true, true, true, true, true, true, true, true, true, true, true, true, true, true, true, true, true, true, true, false, false, false, false, false, false, false, false, false, false, false, false, false, false, false, false, false, false, false, false, false, false] rfl rfl (by kernel_rfl) (fun _ _ _ h => h) (Or.inl ⟨by rfl, ?_⟩) ?_ ?_
    rotate_left
    · intro w'
      go_simp
      with_reducible rfl
    rotate_left
    · simp only [Act.put, List.setIfInBounds_toArray, List.set_cons_zero, List.set_cons_succ, i64_w, i32_w]
      rfl
    refine pure_ (i := 28) (N := some 128) (v := ?_) (a' := ?_) #[true, true, true, true, true, true, true, true, true, true, true, true, true, true, true, true, true, true, true, true, true, true, true, true, true, true, true, true, true, false, false, false, false, false, false, false, false, false, false, false, false, false, false, false, false, false, false, false, false, false] rfl rfl (by kernel_rfl) (fun _ _ _ h => h) (Or.inl ⟨by rfl, ?_⟩) ?_ ?_
    rotate_left
    · intro w'
      go_simp
      with_reducible rfl
    rotate_left
    · simp only [Act.put, List.setIfInBounds_toArray, List.set_cons_zero, List.set_cons_succ, i64_w, i32_w]
      rfl
    refine pure_ (i := 29) (N := some 129) (v := ?_) (a' := ?_) #[true, true, true, true, true, true, true, true, true, true, true, true, true, true, true, true, true, true, true, true, true, true, true, true, true, true, true, true, true, true, false, false, false, false, false, false, false, false, false, false, false, false, false, false, false, false, false, false, false, false] rfl rfl (by kernel_rfl) (fun _ _ _ h => h) (Or.inl ⟨by rfl, ?_⟩) ?_ ?_
    rotate_left
    · intro w'
      go_simp
      with_reducible rfl
    rotate_left
    · simp only [Act.put, List.setIfInBounds_toArray, List.set_cons_zero, List.set_cons_succ, i64_w, i32_w]
      rfl
    refine one_ (i := 30) (N := some 130) #[true, true, true, true, true, true, true, true, true, true, true, true, true, true, true, true, true, true, true, true, true, true, true, true, true, true, true, true, true, true, true, false, false, false, false, false, false, false, false, false, false, false, false, false, false, false, false, false, false, false] rfl rfl (by kernel_rfl) (by decide) (fun K hK => ?_)
    refine goes_ Try.func43 (by kernel_rfl) rfl #[.slice (some adu) tk.length cu, .slice (some ad) tk.length c1] (by rfl) rfl rfl (by simp only [List.map_toArray, List.map_cons, List.map_nil]; rfl) ?_
    with_reducible refine (same_ints (some adu) cu (some ad) c1 tk w21 (Kd.C_below CU.out HB21.out) CUc.out (Kd.C_below CT.out HB21.out) CTc.out HTKB.out).mono ?_
    rintro e_ w' ⟨rfl, ⟨n30, rfl⟩⟩
    refine ⟨_, rfl, ?_⟩
    refine hK.out _ _ ⟨pw_cell_below (pw_below_drewN (Below.refl _ _) _) (hHeld.1), pw_cell_below (pw_below_drewN (Below.refl _ _) _) (hHeld.2.1), pw_cell_below (pw_below_drewN (Below.refl _ _) _) (hHeld.2.2.1), pw_cell_below (pw_below_drewN (Below.refl _ _) _) (hHeld.2.2.2.1), pw_cell_below (pw_below_drewN (Below.refl _ _) _) (hHeld.2.2.2.2.1), pw_cell_below (pw_below_drewN (Below.refl _ _) _) (hHeld.2.2.2.2.2.1), pw_cell_below (pw_below_drewN (Below.refl _ _) _) (hHeld.2.2.2.2.2.2.1), pw_cell_below (pw_below_drewN (Below.refl _ _) _) (hHeld.2.2.2.2.2.2.2.1), pw_cell_below (pw_below_drewN (Below.refl _ _) _) (hHeld.2.2.2.2.2.2.2.2.1), pw_cell_below (pw_below_drewN (Below.refl _ _) _) (hHeld.2.2.2.2.2.2.2.2.2.1), pw_cell_below (pw_below_drewN (Below.refl _ _) _) (hHeld.2.2.2.2.2.2.2.2.2.2.1), pw_cell_below (pw_below_drewN (Below.refl _ _) _) (hHeld.2.2.2.2.2.2.2.2.2.2.2.1), pw_cell_below (pw_below_drewN (Below.refl _ _) _) (hHeld.2.2.2.2.2.2.2.2.2.2.2.2)⟩ (fun hHeld => ?_)
    clear hK K
    refine norm_ (a' := ?_) ?_ ?_
    rotate_left
    · show Act.put _ (some 130) _ = _
      simp only [Act.put, List.setIfInBounds_toArray, List.set_cons_zero, List.set_cons_succ, i64_w, i32_w]
      rfl
    refine pure_ (i := 31) (N := some 131) (v := ?_) (a' := ?_) #[true, true, true, true, true, true, true, true, true, true, true, true, true, true, true, true, true, true, true, true, true, true, true, true, true, true, true, true, true, true, true, true, false, false, false, false, false, false, false, false, false, false, false, false, false, false, false, false, false, false] rfl rfl (by kernel_rfl) (fun _ _ _ h => h) (Or.inl ⟨by rfl, ?_⟩) ?_ ?_
    rotate_left
    · intro w'
      go_simp
      with_reducible rfl
    rotate_left
    · simp only [Act.put, List.setIfInBounds_toArray, List.set_cons_zero, List.set_cons_succ, i64_w, i32_w]
      rfl
    refine pure_ (i := 32) (N := some 132) (v := ?_) (a' := ?_) #[true, true, true, true, true, true, true, true, true, true, true, true, true, true, true, true, true, true, true, true, true, true, true, true, true, true, true, true, true, true, true, true, true, false, false, false, false, false, false, false, false, false, false, false, false, false, false, false, false, false] rfl rfl (by kernel_rfl) (fun _ _ _ h => h) (Or.inl ⟨by rfl, ?_⟩) ?_ ?_
    rotate_left
    · intro w'
      go_simp
      with_reducible rfl
    rotate_left
    · simp only [Act.put, List.setIfInBounds_toArray, List.set_cons_zero, List.set_cons_succ, i64_w, i32_w]
      rfl
    refine pure_ (i := 33) (N := some 133) (v := ?_) (a' := ?_) #[true, true, true, true, true, true, true, true, true, true, true, true, true, true, true, true, true, true, true, true, true, true, true, true, true, true, true, true, true, true, true, true, true, true, false, false, false, false, false, false, false, false, false, false, false, false, false, false, false, false] rfl rfl (by kernel_rfl) (fun _ _ _ h => h) (Or.inl ⟨by rfl, ?_⟩) ?_ ?_
    rotate_left
    · intro w'
      go_simp
      with_reducible rfl
    rotate_left
    · simp only [Act.put, List.setIfInBounds_toArray, List.set_cons_zero, List.set_cons_succ, i64_w, i32_w]
      rfl
    refine pure_ (i := 34) (N := some 134) (v := ?_) (a' := ?_) #[true, true, true, true, true, true, true, true, true, true, true, true, true, true, true, true, true, true, true, true, true, true, true, true, true, true, true, true, true, true, true, true, true, true, true, false, false, false, false, false, false, false, false, false, false, false, false, false, false, false] rfl rfl (by kernel_rfl) (fun _ _ _ h => h) (Or.inl ⟨by rfl, ?_⟩) ?_ ?_
    rotate_left
    · intro w'
      go_simp
      with_reducible rfl
    rotate_left
    · simp only [Act.put, List.setIfInBounds_toArray, List.set_cons_zero, List.set_cons_succ, i64_w, i32_w]
      rfl
    refine pure_ (i := 35) (N := some 135) (v := ?_) (a' := ?_) #[true, true, true, true, true, true, true, true, true, true, true, true, true, true, true, true, true, true, true, true, true, true, true, true, true, true, true, true, true, true, true, true, true, true, true, true, false, false, false, false, false, false, false, false, false, false, false, false, false, false] rfl rfl (by kernel_rfl) (fun _ _ _ h => h) (Or.inl ⟨by rfl, ?_⟩) ?_ ?_
    rotate_left
    · intro w'
      go_simp
      with_reducible rfl
    rotate_left
    · simp only [Act.put, List.setIfInBounds_toArray, List.set_cons_zero, List.set_cons_succ, i64_w, i32_w]
      rfl
    refine pure_ (i := 36) (N := some 136) (v := ?_) (a' := ?_) #[true, true, true, true, true, true, true, true, true, true, true, true, true, true, true, true, true, true, true, true, true, true, true, true, true, true, true, true, true, true, true, true, true, true, true, true, true, false, false, false, false, false, false, false, false, false, false, false, false, false] rfl rfl (by kernel_rfl) (fun _ _ _ h => h) (Or.inl ⟨by rfl, ?_⟩) ?_ ?_
    rotate_left
    · intro w'
      go_simp
      with_reducible rfl
    rotate_left
    · simp only [Act.put, List.setIfInBounds_toArray, List.set_cons_zero, List.set_cons_succ, i64_w, i32_w]
      rfl
    refine pure_ (i := 37) (N := some 137) (v := ?_) (a' := ?_) #[true, true, true, true, true, true, true, true, true, true, true, true, true, true, true, true, true, true, true, true, true, true, true, true, true, true, true, true, true, true, true, true, true, true, true, true, true, true, false, false, false, false, false, false, false, false, false, false, false, false] rfl rfl (by kernel_rfl) (fun _ _ _ h => h) (Or.inl ⟨by rfl, ?_⟩) ?_ ?_
    rotate_left
    · intro w'
      go_simp
      with_reducible rfl
    rotate_left
    · simp only [Act.put, List.setIfInBounds_toArray, List.set_cons_zero, List.set_cons_succ, i64_w, i32_w]
      rfl
    refine pure_ (i := 38) (N := some 138) (v := ?_) (a' := ?_) #[true, true, true, true, true, true, true, true, true, true, true, true, true, true, true, true, true, true, true, true, true, true, true, true, true, true, true, true, true, true, true, true, true, true, true, true, true, true, true, false, false, false, false, false, false, false, false, false, false, false] rfl rfl (by kernel_rfl) (fun _ _ _ h => h) (Or.inl ⟨by rfl, ?_⟩) ?_ ?_
    rotate_left
    · intro w'
      go_simp
      with_reducible rfl
    rotate_left
    · simp only [Act.put, List.setIfInBounds_toArray, List.set_cons_zero, List.set_cons_succ, i64_w, i32_w]
      rfl
    refine one_ (i := 39) (N := some 139) #[true, true, true, true, true, true, true, true, true, true, true, true, true, true, true, true, true, true, true, true, true, true, true, true, true, true, true, true, true, true, true, true, true, true, true, true, true, true, true, true, false, false, false, false, false, false, false, false, false, false] rfl rfl (by kernel_rfl) (by decide) (fun K hK => ?_)
    refine goes_ Try.func44 (by kernel_rfl) rfl #[.slice Am ek.length cm, .slice A2 ek.length c2] (by rfl) rfl rfl (by simp only [List.map_toArray, List.map_cons, List.map_nil]; rfl) ?_
    with_reducible refine (same_entries Am cm A2 c2 ek (w21.drewN n30) (Kd.C_below (Kd.C_below CM.out HB21.out) (pw_below_drewN (Below.refl _ _) _)) CMc.out (Kd.C_below (Kd.C_below CL.out HB21.out) (pw_below_drewN (Below.refl _ _) _)) CLc.out HEKB.out HMK4.out).mono ?_
    rintro e_ w39 ⟨rfl, hb39⟩
    refine ⟨_, rfl, ?_⟩
    have HB39 := Aside0.mk (below_then (below_then HB21.out HB21.out.size (pw_below_drewN (Below.refl _ _) n30)) HB21.out.size hb39 : Below wd.heap.size wd w39)
    refine hK.out _ _ ⟨pw_cell_below hb39 (hHeld.1), pw_cell_below hb39 (hHeld.2.1), pw_cell_below hb39 (hHeld.2.2.1), pw_cell_below hb39 (hHeld.2.2.2.1), pw_cell_below hb39 (hHeld.2.2.2.2.1), pw_cell_below hb39 (hHeld.2.2.2.2.2.1), pw_cell_below hb39 (hHeld.2.2.2.2.2.2.1), pw_cell_below hb39 (hHeld.2.2.2.2.2.2.2.1), pw_cell_below hb39 (hHeld.2.2.2.2.2.2.2.2.1), pw_cell_below hb39 (hHeld.2.2.2.2.2.2.2.2.2.1), pw_cell_below hb39 (hHeld.2.2.2.2.2.2.2.2.2.2.1), pw_cell_below hb39 (hHeld.2.2.2.2.2.2.2.2.2.2.2.1), pw_cell_below hb39 (hHeld.2.2.2.2.2.2.2.2.2.2.2.2)⟩ (fun hHeld => ?_)
    clear hK K
    refine norm_ (a' := ?_) ?_ ?_
    rotate_left
    · show Act.put _ (some 139) _ = _
      simp only [Act.put, List.setIfInBounds_toArray, List.set_cons_zero, List.set_cons_succ, i64_w, i32_w]
      rfl
    refine pure_ (i := 40) (N := some 140) (v := ?_) (a' := ?_) #[true, true, true, true, true, true, true, true, true, true, true, true, true, true, true, true, true, true, true, true, true, true, true, true, true, true, true, true, true, true, true, true, true, true, true, true, true, true, true, true, true, false, false, false, false, false, false, false, false, false] rfl rfl (by kernel_rfl) (fun _ _ _ h => h) (Or.inl ⟨by rfl, ?_⟩) ?_ ?_
    rotate_left
    · intro w'
      go_simp
      with_reducible rfl
    rotate_left
    · simp only [Act.put, List.setIfInBounds_toArray, List.set_cons_zero, List.set_cons_succ, i64_w, i32_w]
      rfl
    refine pure_ (i := 41) (N := some 141) (v := ?_) (a' := ?_) #[true, true, true, true, true, true, true, true, true, true, true, true, true, true, true, true, true, true, true, true, true, true, true, true, true, true, true, true, true, true, true, true, true, true, true, true, true, true, true, true, true, true, false, false, false, false, false, false, false, false] rfl rfl (by kernel_rfl) (fun _ _ _ h => h) (Or.inl ⟨by rfl, ?_⟩) ?_ ?_
    rotate_left
    · intro w'
      go_simp
      with_reducible rfl
    rotate_left
    · simp only [Act.put, List.setIfInBounds_toArray, List.set_cons_zero, List.set_cons_succ, i64_w, i32_w]
      rfl
    refine pure_ (i := 42) (N := some 142) (v := ?_) (a' := ?_) #[true, true, true, true, true, true, true, true, true, true, true, true, true, true, true, true, true, true, true, true, true, true, true, true, true, true, true, true, true, true, true, true, true, true, true, true, true, true, true, true, true, true, true, false, false, false, false, false, false, false] rfl rfl (by kernel_rfl) (fun _ _ _ h => h) (Or.inl ⟨by rfl, ?_⟩) ?_ ?_
    rotate_left
    · intro w'
      go_simp
      with_reducible rfl
    rotate_left
    · simp only [Act.put, List.setIfInBounds_toArray, List.set_cons_zero, List.set_cons_succ, i64_w, i32_w]
      rfl
    refine pure_ (i := 43) (N := some 143) (v := ?_) (a' := ?_) #[true, true, true, true, true, true, true, true, true, true, true, true, true, true, true, true, true, true, true, true, true, true, true, true, true, true, true, true, true, true, true, true, true, true, true, true, true, true, true, true, true, true, true, true, false, false, false, false, false, false] rfl rfl (by kernel_rfl) (fun _ _ _ h => h) (Or.inl ⟨by rfl, ?_⟩) ?_ ?_
    rotate_left
    · intro w'
      go_simp
      with_reducible rfl
    rotate_left
    · simp only [Act.put, List.setIfInBounds_toArray, List.set_cons_zero, List.set_cons_succ, i64_w, i32_w]
      rfl
    refine pure_ (i := 44) (N := some 144) (v := ?_) (a' := ?_) #[true, true, true, true, true, true, true, true, true, true, true, true, true, true, true, true, true, true, true, true, true, true, true, true, true, true, true, true, true, true, true, true, true, true, true, true, true, true, true, true, true, true, true, true, true, false, false, false, false, false] rfl rfl (by kernel_rfl) (fun _ _ _ h => h) (Or.inl ⟨by rfl, ?_⟩) ?_ ?_
    rotate_left
    · intro w'
      go_simp
      with_reducible rfl
    rotate_left
    · simp only [Act.put, List.setIfInBounds_toArray, List.set_cons_zero, List.set_cons_succ, i64_w, i32_w]
      rfl
    refine pure_ (i := 46) (N := some 146) (v := ?_) (a' := ?_) #[true, true, true, true, true, true, true, true, true, true, true, true, true, true, true, true, true, true, true, true, true, true, true, true, true, true, true, true, true, true, true, true, true, true, true, true, true, true, true, true, true, true, true, true, true, false, true, false, false, false] rfl rfl (by kernel_rfl) (fun _ _ _ h => h) (Or.inl ⟨by rfl, ?_⟩) ?_ ?_
    rotate_left
    · intro w'
      go_simp
      with_reducible rfl
    rotate_left
    · simp only [Act.put, List.setIfInBounds_toArray, List.set_cons_zero, List.set_cons_succ, i64_w, i32_w]
      rfl
    refine take_ (i := 45) (N := some 145) (v := ?_) (a' := ?_) #[true, true, true, true, true, true, true, true, true, true, true, true, true, true, true, true, true, true, true, true, true, true, true, true, true, true, true, true, true, true, true, true, true, true, true, true, true, true, true, true, true, true, true, true, true, true, true, false, false, false] rfl rfl (by kernel_rfl) (fun _ _ _ h => h) (Or.inl ⟨by rfl, ?_⟩) hHeld ?_ ?_
    rotate_left
    · rintro w' ⟨s0, s1, s2, s3, s4, s5, s6, s7, s8, s9, s10, s11, s12⟩
      go_simp
      with_reducible rfl
    rotate_left
    · simp only [Act.put, List.setIfInBounds_toArray, List.set_cons_zero, List.set_cons_succ, i64_w, i32_w]
      rfl
    refine pure_ (i := 47) (N := some 147) (v := ?_) (a' := ?_) #[true, true, true, true, true, true, true, true, true, true, true, true, true, true, true, true, true, true, true, true, true, true, true, true, true, true, true, true, true, true, true, true, true, true, true, true, true, true, true, true, true, true, true, true, true, true, true, true, false, false] rfl rfl (by kernel_rfl) (fun _ _ _ h => h) (Or.inl ⟨by rfl, ?_⟩) ?_ ?_
    rotate_left
    · intro w'
      go_simp
      with_reducible rfl
    rotate_left
    · simp only [Act.put, List.setIfInBounds_toArray, List.set_cons_zero, List.set_cons_succ, i64_w, i32_w]
      rfl
    refine pure_ (i := 48) (N := some 148) (v := ?_) (a' := ?_) #[true, true, true, true, true, true, true, true, true, true, true, true, true, true, true, true, true, true, true, true, true, true, true, true, true, true, true, true, true, true, true, true, true, true, true, true, true, true, true, true, true, true, true, true, true, true, true, true, true, false] rfl rfl (by kernel_rfl) (fun _ _ _ h => h) (Or.inl ⟨by rfl, ?_⟩) ?_ ?_
    rotate_left
    · intro w'
      go_simp
      with_reducible rfl
    rotate_left
    · simp only [Act.put, List.setIfInBounds_toArray, List.set_cons_zero, List.set_cons_succ, i64_w, i32_w]
      rfl
    refine pure_ (i := 49) (N := some 6) (v := ?_) (a' := ?_) #[true, true, true, true, true, true, true, true, true, true, true, true, true, true, true, true, true, true, true, true, true, true, true, true, true, true, true, true, true, true, true, true, true, true, true, true, true, true, true, true, true, true, true, true, true, true, true, true, true, true] rfl rfl (by kernel_rfl) (fun _ _ _ h => h) (Or.inl ⟨by rfl, ?_⟩) ?_ ?_
    rotate_left
    · intro w'
      go_simp
      with_reducible rfl
    rotate_left
    · simp only [Act.put, List.setIfInBounds_toArray, List.set_cons_zero, List.set_cons_succ, i64_w, i32_w]
      rfl
    refine done_ (by kernel_rfl) ?_
    go_wp2
    go_ret
    exact ⟨rfl, below_then HBW.out HBW.out.size HB39.out⟩

end Go.Proofs.Ytbomomaidglegaa.Hist
