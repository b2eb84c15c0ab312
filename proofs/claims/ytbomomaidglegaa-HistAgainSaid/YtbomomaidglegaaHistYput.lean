/- The document's Put, entries whatever they are; what it leaves is not told, only that it is a log. -/
import Derived.Test.YtbomomaidglegaaHistAny
import Derived.Deep.LoopGhost
import Derived.WalkSpells
namespace Go.Proofs.Ytbomomaidglegaa.Hist
open Go Go.RowKit Go.Proofs.Ytbomomaidglegaa.XHist Go.Proofs.YtbomomaidglegaaW.PrintWords Go.Proofs.YtbomomaidglegaaW.PrintLast Go.Proofs.YtbomomaidglegaaW.PrintMore
set_option linter.unusedVariables false
set_option linter.unusedSimpArgs false


theorem grown_below {W w1 : World} (h : W.grownBy w1 none) : Below W.heap.size W w1 := ⟨h.os, h.tape, h.output, h.size, fun k hk => h.block k hk (by simp)⟩
theorem cut_pre_ {P : Program} (t e : TypeId) {z : Option Value} {s y : Nat} (ht : P.underlying t = some (.slice e)) (hinfo : (P.info? e).map (fun i => (i.zero, i.size, i.bytes)) = some (z, s, y)) (A : Option Addr) (n c j : Nat) (hm : j ≤ n) (hc : n ≤ c) :
    ∀ W : World, (Instr.slice t (.slice A n c) none (some (.int .i64 (j : Int))) none).run P W = .ok (.slice A j c) W := by
  obtain ⟨i, hi, _⟩ := Option.map_eq_some_iff.1 hinfo
  have := cut_to (P := P) t e .i64 ht hi A n c (j : Int) (by omega) (by omega) hc
  simpa using this
theorem C_q {w : World} {A : Option Addr} {n : Nat} {xs : List S77} (h : Kd.C k77 w A n xs) : Kd.C kq w A n xs :=
  Kd.C_imp (d := k77) (d' := kq) rfl (fun w x cs hk => by
    obtain ⟨A4, c4, rfl, _, _⟩ := k77_open hk
    exact kq.K_of_M (kq_mk w 0 (fun _ => True) x A4 _ c4)) h
theorem IsY.bounds {B : Nat} {W : World} {g : Nat} {F : Nat → Prop} {b : Int} {ts : List Int} {es : List S77} (h : IsY B W g F b ts es) : 0 ≤ b ∧ b + (es.length : Int) ≤ 64 ∧ ts.length = es.length := by
  obtain ⟨_, _, _, _, _, _, _, _, _, _, hl, h0, h1⟩ := h
  exact ⟨h0, h1, hl⟩
theorem yterm_quiet {B : Nat} {W : World} {g : Nat} {F : Nat → Prop} {b : Int} {ts : List Int} {es : List S77} (h : IsY B W g F b ts es) (i m : Int) (hm : tx b ts i = m) :
    Calls Try.prog 68 #[.pointer (some ⟨g, 0, none⟩), .int .i64 i] W fun e w' => e = .returned (.int .i64 m) ∧ ∃ n, w' = W.drewN n :=
  (yterm_calls h i).mono (by rintro e w' ⟨rfl, hd⟩; exact ⟨by rw [hm], hd.out⟩)

theorem meas_step {n k : Nat} {v : Int} (h : k < n) (hv : v = (k : Int) + 1) : n - (intOf (.int .i64 v)).toNat < n - (intOf (.int .i64 (k : Int))).toNat := by
  subst hv
  simp only [intOf, Int.toNat_natCast]
  omega
/-- What the document's Put leaves. -/
def YPost (B : Nat) (W : World) (g : Nat) (F : Nat → Prop) (b : Int) (e : Ending) (w' : World) : Prop := ∃ (F' : Nat → Prop) (n r : Int) (ts' : List Int) (es' : List S77), e = .returned (.tuple #[.int .i64 n, .int .i64 r]) ∧
      IsY B w' g F' b ts' es' ∧ (∀ q, F' q → F q ∨ W.heap.size ≤ q) ∧ Kept F W w'
theorem YPost.mk {B : Nat} {W : World} {g : Nat} {F : Nat → Prop} {b : Int} {w' : World} (F' : Nat → Prop) (n r : Int) (ts' : List Int) (es' : List S77) (h1 : IsY B w' g F' b ts' es') (h2 : ∀ q, F' q → F q ∨ W.heap.size ≤ q) (h3 : Kept F W w') :
    YPost B W g F b (.returned (.tuple #[.int .i64 n, .int .i64 r])) w' := ⟨F', n, r, ts', es', rfl, h1, h2, h3⟩
set_option maxHeartbeats 16000000 in
set_option maxRecDepth 100000 in
theorem yput_calls {B : Nat} {W : World} {g : Nat} {F : Nat → Prop} {b : Int} {ts : List Int} {es : List S77} (h : IsY B W g F b ts es) (hBW : B ≤ W.heap.size) (x t : Int) (At : Option Addr) (ct : Nat) (l : List Int) (A : Option Addr) (c : Nat) (el : List S77)
    (hT : ∀ W', Kept F W W' → Kd.C (Kd.int .i64) W' At l.length l) (hlt : l.length < 1000000)
    (hE : ∀ W', Kept F W W' → Kd.C k77 W' A el.length el) (hl : el.length < 1000000) :
    Calls Try.prog 41 #[.pointer (some ⟨g, 0, none⟩), .int .i64 x, .int .i64 t, .slice At l.length ct, .slice A el.length c] W (YPost B W g F b) := by
  obtain ⟨m, hmm⟩ : ∃ m, tx b ts x = m := ⟨_, rfl⟩
  have hbb := h.bounds
  have HH := Aside0.mk h
  have HE := Aside0.mk hE
  have HT := Aside0.mk hT
  have HMM := Aside0.mk hmm
  have HBW := Aside0.mk hBW
  have HLT := Aside0.mk hlt
  obtain ⟨A10, c10, A20, c20, hbk, hrest⟩ := h
  have hcg : W.cell? ⟨g, 0, none⟩ = some (.int .i64 b) := (blk_cell hbk 0).trans rfl
  clear hE hT hBW hbk hrest
  have hu77 := Try.underlying77
  have hb00 := hbb.1
  have HBB := Aside0.mk hbb
  by_cases c1 : l.length = el.length
  case neg =>
    have d1 : ((l.length : Int) != (el.length : Int)) = true := bne_iff_ne.mpr (by omega)
    have d1' : ((l.length : Int) == (el.length : Int)) = false := beq_eq_false_iff_ne.mpr (by omega)
    clear c1 hmm hbb
    go_enter Try.func41, Try.ntmps41
    go_wp2_with (first | (go_at_call 67; refine (ylast_calls (B := B) (F := F) (b := b) (ts := ts) (es := es) (by repeat (first | exact HH.out | apply IsY.drew | apply IsY.drewN))).mono ?_; rintro e_ w' ⟨rfl, ⟨n, rfl⟩⟩) | (go_at_call 68; refine (yterm_calls (B := B) (F := F) (b := b) (ts := ts) (es := es) (by repeat (first | exact HH.out | apply IsY.drew | apply IsY.drewN)) _).mono ?_; rintro e_ w' ⟨rfl, ⟨n, rfl⟩⟩; rw [HMM.out]))
    go_ret2
    exact YPost.mk F 0 1 ts es (HH.out.below (drawn_below (by repeat (first | exact Drawn0.refl _ | apply Drawn0.step)))) (fun q hq => .inl hq) (drawn_kept (by repeat (first | exact Drawn0.refl _ | apply Drawn0.step)))
  have d1 : ((l.length : Int) != (el.length : Int)) = false := bne_eq_false_iff_eq.mpr (by omega)
  have d1' : ((l.length : Int) == (el.length : Int)) = true := beq_iff_eq.mpr (by omega)
  have HLE := Aside0.mk c1
  by_cases c3 : x < b
  · have d3 : decide (x < b) = true := decide_eq_true c3
    clear c1 c3 hmm hbb
    go_enter Try.func41, Try.ntmps41
    go_wp2_with (first | (go_at_call 67; refine (ylast_calls (B := B) (F := F) (b := b) (ts := ts) (es := es) (by repeat (first | exact HH.out | apply IsY.drew | apply IsY.drewN))).mono ?_; rintro e_ w' ⟨rfl, ⟨n, rfl⟩⟩) | (go_at_call 68; refine (yterm_calls (B := B) (F := F) (b := b) (ts := ts) (es := es) (by repeat (first | exact HH.out | apply IsY.drew | apply IsY.drewN)) _).mono ?_; rintro e_ w' ⟨rfl, ⟨n, rfl⟩⟩; rw [HMM.out]))
    go_ret2
    exact YPost.mk F 0 1 ts es (HH.out.below (drawn_below (by repeat (first | exact Drawn0.refl _ | apply Drawn0.step)))) (fun q hq => .inl hq) (drawn_kept (by repeat (first | exact Drawn0.refl _ | apply Drawn0.step)))
  have d3 : decide (x < b) = false := decide_eq_false c3
  have hxb : b ≤ x := by omega
  clear c1 c3 hmm
  have HB0 := Aside0.mk hbb
  clear hbb
  go_enter Try.func41, Try.ntmps41
  go_wp2
  clear d1 d1' d3
  go_loop [12, 13] (fun v12 v13 => ∃ (k : Nat) (v : Int), v12 = .int .i64 v ∧ v13 = .int .i64 (k : Int) ∧ k ≤ l.length ∧ Aside0 (∀ (j : Nat) (hj : j < k) (h : j < l.length), 1 ≤ l[j]))
    (fun _ v13 => l.length - (intOf v13).toNat)
  case atStart => exact ⟨0, t, rfl, rfl, Nat.zero_le _, ⟨fun j hj => by omega⟩⟩
  case round =>
    obtain ⟨k, v, rfl, rfl, hk, HP⟩ := hrel
    by_cases hlk : k < l.length
    · have q1 := eq_true (show (k : Int) < (l.length : Int) by omega)
      have q0 := eq_true (show 0 ≤ (k : Int) by omega)
      obtain ⟨adt, rfl, ht0⟩ := Kd.at_int (HT.out W (Kept.refl _ _)) (k : Int) (by omega) (by omega)
      rw [Int.toNat_natCast] at ht0
      obtain ⟨tv, htv⟩ : ∃ tv, rd l (k : Int) = tv := ⟨_, rfl⟩
      rw [htv] at ht0
      have HTV := Aside0.mk htv
      have hwk : wrap64 ((k : Int) + 1) = (k : Int) + 1 := by have := HLT.out; unfold wrap64; omega
      clear htv hlt
      by_cases e1 : tv < 1
      · have f1 : decide (tv < 1) = true := decide_eq_true e1
        clear e1
        go_wp2_with (first | (go_at_call 67; refine (ylast_calls (B := B) (F := F) (b := b) (ts := ts) (es := es) (by repeat (first | exact HH.out | apply IsY.drew | apply IsY.drewN))).mono ?_; rintro e_ w' ⟨rfl, ⟨n, rfl⟩⟩) | (go_at_call 68; refine (yterm_calls (B := B) (F := F) (b := b) (ts := ts) (es := es) (by repeat (first | exact HH.out | apply IsY.drew | apply IsY.drewN)) _).mono ?_; rintro e_ w' ⟨rfl, ⟨n, rfl⟩⟩; rw [HMM.out]))
        go_ret2
        exact YPost.mk F 0 1 ts es (HH.out.below (drawn_below (by repeat (first | exact Drawn0.refl _ | apply Drawn0.step)))) (fun q hq => .inl hq) (drawn_kept (by repeat (first | exact Drawn0.refl _ | apply Drawn0.step)))
      have f1 : decide (tv < 1) = false := decide_eq_false e1
      by_cases e2 : tv < v
      · have f2 : decide (tv < v) = true := decide_eq_true e2
        clear e1 e2
        go_wp2_with (first | (go_at_call 67; refine (ylast_calls (B := B) (F := F) (b := b) (ts := ts) (es := es) (by repeat (first | exact HH.out | apply IsY.drew | apply IsY.drewN))).mono ?_; rintro e_ w' ⟨rfl, ⟨n, rfl⟩⟩) | (go_at_call 68; refine (yterm_calls (B := B) (F := F) (b := b) (ts := ts) (es := es) (by repeat (first | exact HH.out | apply IsY.drew | apply IsY.drewN)) _).mono ?_; rintro e_ w' ⟨rfl, ⟨n, rfl⟩⟩; rw [HMM.out]))
        go_ret2
        exact YPost.mk F 0 1 ts es (HH.out.below (drawn_below (by repeat (first | exact Drawn0.refl _ | apply Drawn0.step)))) (fun q hq => .inl hq) (drawn_kept (by repeat (first | exact Drawn0.refl _ | apply Drawn0.step)))
      have f2 : decide (tv < v) = false := decide_eq_false e2
      have HE1 := Aside0.mk e1
      clear e1 e2
      go_wp2
      go_round
      case rel =>
        refine ⟨k + 1, tv, rfl, by first | rfl | (rw [hwk]; rfl), hlk, ⟨fun j hj h => ?_⟩⟩
        by_cases hjk : j = k
        · subst hjk
          have h2 := HTV.out
          rw [rd_at_ l j h] at h2
          have h3 := HE1.out
          omega
        · exact HP.out j (by omega) h
      case measure => exact meas_step hlk (by first | rfl | exact hwk)
    · have q1 := eq_false (show ¬ (k : Int) < (l.length : Int) by omega)
      have hkl : k = l.length := by omega
      subst hkl
      have HPOS := Aside0.mk (show ∀ (j : Nat) (h : j < l.length), 1 ≤ l[j] from fun j h => HP.out j h h)
      clear HP hlk hk
      by_cases c4 : b + (es.length : Int) < x
      · have d4 : decide (b + (es.length : Int) < x) = true := decide_eq_true c4
        clear c4
        go_wp2_with (first | (go_at_call 67; refine (ylast_calls (B := B) (F := F) (b := b) (ts := ts) (es := es) (by repeat (first | exact HH.out | apply IsY.drew | apply IsY.drewN))).mono ?_; rintro e_ w' ⟨rfl, ⟨n, rfl⟩⟩) | (go_at_call 68; refine (yterm_calls (B := B) (F := F) (b := b) (ts := ts) (es := es) (by repeat (first | exact HH.out | apply IsY.drew | apply IsY.drewN)) _).mono ?_; rintro e_ w' ⟨rfl, ⟨n, rfl⟩⟩; rw [HMM.out]))
        go_ret2
        exact YPost.mk F 0 2 ts es (HH.out.below (drawn_below (by repeat (first | exact Drawn0.refl _ | apply Drawn0.step)))) (fun q hq => .inl hq) (drawn_kept (by repeat (first | exact Drawn0.refl _ | apply Drawn0.step)))
      have d4 : decide (b + (es.length : Int) < x) = false := decide_eq_false c4
      by_cases c5 : b < x ∧ m ≠ t
      · have d5 : decide (b < x) = true := decide_eq_true c5.1
        have d6 : (m != t) = true := bne_iff_ne.mpr c5.2
        have d6' : (m == t) = false := beq_eq_false_iff_ne.mpr c5.2
        clear c4 c5
        go_wp2_with (first | (go_at_call 67; refine (ylast_calls (B := B) (F := F) (b := b) (ts := ts) (es := es) (by repeat (first | exact HH.out | apply IsY.drew | apply IsY.drewN))).mono ?_; rintro e_ w' ⟨rfl, ⟨n, rfl⟩⟩) | (go_at_call 68; refine (yterm_calls (B := B) (F := F) (b := b) (ts := ts) (es := es) (by repeat (first | exact HH.out | apply IsY.drew | apply IsY.drewN)) _).mono ?_; rintro e_ w' ⟨rfl, ⟨n, rfl⟩⟩; rw [HMM.out]))
        go_ret2
        exact YPost.mk F 0 2 ts es (HH.out.below (drawn_below (by repeat (first | exact Drawn0.refl _ | apply Drawn0.step)))) (fun q hq => .inl hq) (drawn_kept (by repeat (first | exact Drawn0.refl _ | apply Drawn0.step)))
      have d56 : decide (b < x) = false ∨ (decide (b < x) = true ∧ (m != t) = false ∧ (m == t) = true) := by
        by_cases h1 : b < x
        · have h2 : m = t := Classical.not_not.1 fun h => c5 ⟨h1, h⟩
          exact .inr ⟨decide_eq_true h1, bne_eq_false_iff_eq.mpr h2, beq_iff_eq.mpr h2⟩
        · exact .inl (decide_eq_false h1)
      have hxl : x ≤ b + (es.length : Int) := by omega
      have hx64 : x ≤ 64 := by have := HB0.out; omega
      clear c4 c5
      rcases d56 with d5 | ⟨d5, d6, d6'⟩
      all_goals
        by_cases c6 : 64 < x + (el.length : Int)
        · have d7 : decide (64 < x + (el.length : Int)) = true := decide_eq_true c6
          clear c6
          go_wp2_with (first | (go_at_call 67; refine (ylast_calls (B := B) (F := F) (b := b) (ts := ts) (es := es) (by repeat (first | exact HH.out | apply IsY.drew | apply IsY.drewN))).mono ?_; rintro e_ w' ⟨rfl, ⟨n, rfl⟩⟩) | (go_at_call 68; refine (yterm_calls (B := B) (F := F) (b := b) (ts := ts) (es := es) (by repeat (first | exact HH.out | apply IsY.drew | apply IsY.drewN)) _).mono ?_; rintro e_ w' ⟨rfl, ⟨n, rfl⟩⟩; rw [HMM.out]))
          go_ret2
          exact YPost.mk F 0 14 ts es (HH.out.below (drawn_below (by repeat (first | exact Drawn0.refl _ | apply Drawn0.step)))) (fun q hq => .inl hq) (drawn_kept (by repeat (first | exact Drawn0.refl _ | apply Drawn0.step)))
        have d7 : decide (64 < x + (el.length : Int)) = false := decide_eq_false c6
        have HC6 := Aside0.mk (show x + (el.length : Int) ≤ 64 by omega)
        have HXL := Aside0.mk hxl
        clear c6 hxl
        go_wp2_with (first | (go_at_call 67; refine (ylast_calls (B := B) (F := F) (b := b) (ts := ts) (es := es) (by repeat (first | exact HH.out | apply IsY.drew | apply IsY.drewN))).mono ?_; rintro e_ w' ⟨rfl, ⟨n, rfl⟩⟩) | (go_at_call 68; refine (yterm_calls (B := B) (F := F) (b := b) (ts := ts) (es := es) (by repeat (first | exact HH.out | apply IsY.drew | apply IsY.drewN)) _).mono ?_; rintro e_ w' ⟨rfl, ⟨n, rfl⟩⟩; rw [HMM.out]))
        clear d4 d5 d7 hcg
        go_loopw [14] (fun v14 wr => ∃ (k : Nat) (Fk : Nat → Prop) (tk_ : List Int) (ek_ : List S77), v14 = .int .i64 (k : Int) ∧ k ≤ el.length ∧ Aside0 (IsY B wr g Fk b tk_ ek_) ∧ Aside0 (∀ q, Fk q → F q ∨ W.heap.size ≤ q) ∧ Aside0 (Kept F W wr) ∧ Aside0 (x + (k : Int) ≤ b + (ek_.length : Int)))
          (fun v14 _ => el.length - (intOf v14).toNat)
        case atStart =>
          exact ⟨0, F, ts, es, rfl, Nat.zero_le _, ⟨HH.out.below (drawn_below (by repeat (first | exact Drawn0.refl _ | apply Drawn0.step)))⟩, ⟨fun q hq => .inl hq⟩, ⟨drawn_kept (by repeat (first | exact Drawn0.refl _ | apply Drawn0.step))⟩, ⟨by have := HXL.out; omega⟩⟩
        case round =>
          obtain ⟨k, Fk, tk_, ek_, rfl, hk, HI, HF, HKR, HXK⟩ := hrel
          by_cases hlk : k < el.length
          · have q1 := eq_true (show (k : Int) < (el.length : Int) by omega)
            have q1t := eq_true (show (k : Int) < (l.length : Int) by have := HLE.out; omega)
            have q0 := eq_true (show 0 ≤ (k : Int) by omega)
            have hkt : k < l.length := by have := HLE.out; omega
            obtain ⟨adt, rfl, ht0⟩ := Kd.at_int (HT.out wr HKR.out) (k : Int) (by omega) (by omega)
            obtain ⟨ad, A4, c4, rfl, hx0, hx1, hx2, hx3, hx4, hx5, hxc, hxC⟩ := at_T77 (HE.out wr HKR.out) (k : Int) (by omega) (by omega)
            rw [Int.toNat_natCast] at ht0 hx0 hx1 hx2 hx3 hx4 hx5
            obtain ⟨tv, htv⟩ : ∃ tv, rd l (k : Int) = tv := ⟨_, rfl⟩
            obtain ⟨e, hek⟩ : ∃ e, rd_T77 el (k : Int) = e := ⟨_, rfl⟩
            rw [htv] at ht0
            rw [hek] at hx0 hx1 hx2 hx3 hx4 hx5
            have HTV1 := Aside0.mk (show 1 ≤ tv by have h1 := HPOS.out k hkt; rw [rd_at_ l k hkt] at htv; omega)
            obtain ⟨mk, hmk⟩ : ∃ mk, tx b tk_ (x + (k : Int) + 1) = mk := ⟨_, rfl⟩
            have HMK := Aside0.mk hmk
            have hxk0 : 0 ≤ x := by omega
            have hxk : x + (k : Int) < 64 := by have := HC6.out; omega
            have hk64 : k < 64 := by omega
            have YR := Aside0.mk (And.intro hx0 (And.intro hx1 (And.intro hx2 (And.intro hx3 (And.intro hx4 hx5)))))
            have HTCr := Aside0.mk ht0
            have HEK := Aside0.mk hek
            clear htv hek hx0 hx1 hx2 hx3 hx4 hx5 hxc hxC ht0 hmk hkt
            go_wp2
            have HBD := Aside0.mk (show Below wr.heap.size wr wr.drew from below_drew (Below.refl _ _))
            have HTC := Aside0.mk (pw_cell_below HBD.out HTCr.out)
            have HID := Aside0.mk (HI.out.below HBD.out)
            refine start_ (n := 8) (S := fun w' => w'.cell? (adt.add k) = some (Value.int .i64 tv)) (ds := []) #[false, false, false, false, false, false, false, false] (by kernel_rfl) rfl rfl (HTC.out) (fun hHeld => ?_)
            generalize wr.drew = wd at HBD HTC HID hHeld ⊢
            refine pure_ (i := 0) (N := some 88) (v := ?_) (a' := ?_) #[true, false, false, false, false, false, false, false] rfl rfl (by kernel_rfl) (fun _ _ _ h => h) (Or.inl ⟨by rfl, ?_⟩) ?_ ?_
            rotate_left
            · intro w'
              go_simp
              with_reducible rfl
            rotate_left
            · simp only [Act.put, List.setIfInBounds_toArray, List.set_cons_zero, List.set_cons_succ, i64_w, i32_w]
              rfl
            refine pure_ (i := 1) (N := some 89) (v := ?_) (a' := ?_) #[true, true, false, false, false, false, false, false] rfl rfl (by kernel_rfl) (fun _ _ _ h => h) (Or.inl ⟨by rfl, ?_⟩) ?_ ?_
            rotate_left
            · intro w'
              go_simp
              with_reducible rfl
            rotate_left
            · simp only [Act.put, List.setIfInBounds_toArray, List.set_cons_zero, List.set_cons_succ, i64_w, i32_w]
              rfl
            refine pure_ (i := 3) (N := some 91) (v := ?_) (a' := ?_) #[true, true, false, true, false, false, false, false] rfl rfl (by kernel_rfl) (fun _ _ _ h => h) (Or.inl ⟨by rfl, ?_⟩) ?_ ?_
            rotate_left
            · intro w'
              go_simp
              with_reducible rfl
            rotate_left
            · simp only [Act.put, List.setIfInBounds_toArray, List.set_cons_zero, List.set_cons_succ, i64_w, i32_w]
              rfl
            refine pure_ (i := 4) (N := some 92) (v := ?_) (a' := ?_) #[true, true, false, true, true, false, false, false] rfl rfl (by kernel_rfl) (fun _ _ _ h => h) (Or.inl ⟨by rfl, ?_⟩) ?_ ?_
            rotate_left
            · intro w'
              go_simp
              with_reducible rfl
            rotate_left
            · simp only [Act.put, List.setIfInBounds_toArray, List.set_cons_zero, List.set_cons_succ, i64_w, i32_w]
              rfl
            refine pure_ (i := 5) (N := some 93) (v := ?_) (a' := ?_) #[true, true, false, true, true, true, false, false] rfl rfl (by kernel_rfl) (fun _ _ _ h => h) (Or.inl ⟨by rfl, ?_⟩) ?_ ?_
            rotate_left
            · intro w'
              go_simp
              with_reducible rfl
            rotate_left
            · simp only [Act.put, List.setIfInBounds_toArray, List.set_cons_zero, List.set_cons_succ, i64_w, i32_w]
              rfl
            refine take_ (i := 6) (N := some 94) (v := ?_) (a' := ?_) #[true, true, false, true, true, true, true, false] rfl rfl (by kernel_rfl) (fun _ _ _ h => h) (Or.inl ⟨by rfl, ?_⟩) hHeld ?_ ?_
            rotate_left
            · intro w' s0
              go_simp
              with_reducible rfl
            rotate_left
            · simp only [Act.put, List.setIfInBounds_toArray, List.set_cons_zero, List.set_cons_succ, i64_w, i32_w]
              rfl
            refine one_ (i := 2) (N := some 90) #[true, true, true, true, true, true, true, false] rfl rfl (by kernel_rfl) (by decide) (fun K hK => ?_)
            refine goes_ Try.func68 (by kernel_rfl) rfl #[.pointer (some ⟨g, 0, none⟩), .int .i64 (x + (k : Int) + 1)] (by rfl) rfl rfl (by simp only [List.map_toArray, List.map_cons, List.map_nil]; rfl) ?_
            with_reducible refine (yterm_quiet HID.out _ mk HMK.out).mono ?_
            rintro e_ w3 ⟨rfl, n3, rfl⟩
            refine ⟨_, rfl, ?_⟩
            refine hK.out _ _ (pw_cell_below (pw_below_drewN (Below.refl _ _) _) hHeld) (fun hHeld => ?_)
            clear hK K
            refine norm_ (a' := ?_) ?_ ?_
            rotate_left
            · show Act.put _ (some 90) _ = _
              simp only [Act.put, List.setIfInBounds_toArray, List.set_cons_zero, List.set_cons_succ, i64_w, i32_w]
              rfl
            refine pure_ (i := 7) (N := some 95) (v := ?_) (a' := ?_) #[true, true, true, true, true, true, true, true] rfl rfl (by kernel_rfl) (fun _ _ _ h => h) (Or.inl ⟨by rfl, ?_⟩) ?_ ?_
            rotate_left
            · intro w'
              go_simp
              with_reducible rfl
            rotate_left
            · simp only [Act.put, List.setIfInBounds_toArray, List.set_cons_zero, List.set_cons_succ, i64_w, i32_w]
              rfl
            refine done_ (by kernel_rfl) ?_
            have HBN := Aside0.mk (pw_below_drewN HBD.out n3)
            have HIN := Aside0.mk (HID.out.drewN n3)
            have HTN := Aside0.mk hHeld
            clear HBD HTC HID hHeld
            generalize wd.drewN n3 = wn at HBN HIN HTN ⊢
            have HWN := Aside0.mk (show wrap64 ((k : Int) + 1) = (k : Int) + 1 by unfold wrap64; omega)
            by_cases ceq : mk = tv
            · have d8 : (mk == tv) = true := beq_iff_eq.mpr ceq
              have hwk := HWN.out
              go_wp2
              go_roundw
              case rel =>
                refine ⟨k + 1, Fk, tk_, ek_, by first | rfl | (rw [hwk]; rfl), hlk, HIN, HF, ⟨HKR.out.trans HF.out (Kept.of_below HBN.out)⟩, ⟨?_⟩⟩
                have h1 := HMK.out
                have h2 := HTV1.out
                have h3 := HI.out.bounds.2.2
                unfold tx at h1
                split at h1
                · omega
                · omega
              case measure => exact meas_step hlk (by first | rfl | exact hwk)
            · have d8 : (mk == tv) = false := beq_eq_false_iff_ne.mpr ceq
              obtain ⟨A1, c1, A2, c2, hb, hg, hFB, hFL, hR, hE2, hll, _, h64⟩ := HIN.out
              have hlc1 := (Kd.R_reads' hR).2
              have hlc2 := (Kd.R_reads' hE2).2
              obtain ⟨j, hj⟩ : ∃ j : Nat, x + (k : Int) + 1 - b - 1 = (j : Int) := ⟨(x + (k : Int) + 1 - b - 1).toNat, by omega⟩
              have hjl : j ≤ ek_.length := by have := HXK.out; omega
              have HJ64 := Aside0.mk (show b + ((j + 1 : Nat) : Int) ≤ 64 ∧ j < 64 ∧ 0 ≤ b from ⟨by omega, by omega, hb00⟩)
              have HJT := Aside0.mk hjl
              have HJX := Aside0.mk (show x + (k : Int) = b + (j : Int) by omega)
              have hjA : IntKind.i64.wrap (x + (k : Int) + 1 - b - 1) = (j : Int) := by rw [i64_w]; unfold wrap64; omega
              have hjB : IntKind.i64.wrap (wrap64 (x + (k : Int) + 1 - b) - 1) = (j : Int) := by rw [i64_w]; unfold wrap64; omega
              have hcutT := cut_pre_ 24 3 Try.underlying24 info3 A1 tk_.length c1 j (by omega) hlc1.1
              have hcutE := cut_pre_ 52 77 Try.underlying52 info77f A2 ek_.length c2 j hjl hlc2.1
              have hCTk := Kd.C_take hlc1.2 (m := j) (by omega)
              have hCEk := Kd.C_take hlc2.2 (m := j) (by omega)
              rw [show (tk_.take j).length = j by rw [List.length_take]; omega] at hCTk
              rw [show (ek_.take j).length = j by rw [List.length_take]; omega] at hCEk
              have CTr := Aside0.mk hCTk
              have CEr := Aside0.mk hCEk
              have BGr := Aside0.mk hb
              have HG0 := Aside0.mk hg
              have HFB := Aside0.mk hFB
              have HFL := Aside0.mk hFL
              have HRT := Aside0.mk hR
              have HRE := Aside0.mk hE2
              have HLL := Aside0.mk hll
              have HC0 : wn.cell? ⟨g, 0, none⟩ = some (.int .i64 b) := (blk_cell hb 0).trans rfl
              clear hb hg hFB hFL hR hE2 hll h64 hlc1 hlc2 hjl hCTk hCEk ceq
              go_wp2
              have HBD := Aside0.mk (show Below wn.heap.size wn wn.drew from below_drew (Below.refl _ _))
              have BG := Aside0.mk (blk_below BGr.out HBD.out)
              have HTC := Aside0.mk (pw_cell_below HBD.out HTN.out)
              have HCT := Aside0.mk (Kd.C_below CTr.out HBD.out)
              have HSZ := Aside0.mk (show wn.drew.heap.size = wn.heap.size from rfl)
              clear HC0
              have HLT5 := Aside0.mk (show (tk_.take j ++ [tv]).length = j + 1 by rw [List.length_append, List.length_take]; have := HJT.out; have := HLL.out; simp; omega)
              have HLE5 := Aside0.mk (show (ek_.take j ++ [e]).length = j + 1 by rw [List.length_append, List.length_take]; have := HJT.out; simp; omega)
              refine start_ (n := 18) (S := fun w' => w'.cell? ⟨g, 1, none⟩ = some (Value.slice A1 tk_.length c1) ∧ w'.cell? (adt.add k) = some (Value.int .i64 tv)) (ds := [14, 17]) #[false, false, false, false, false, false, false, false, false, false, false, false, false, false, false, false, false, false] (by kernel_rfl) rfl rfl ⟨(blk_cell BG.out 1).trans rfl, HTC.out⟩ (fun hHeld => ?_)
              have HHD := Aside0.mk hHeld
              generalize wn.drew = wd at HBD BG HTC HCT HSZ HHD hHeld ⊢
              refine pure_ (i := 0) (N := some 103) (v := ?_) (a' := ?_) #[true, false, false, false, false, false, false, false, false, false, false, false, false, false, false, false, false, false] rfl rfl (by kernel_rfl) (fun _ _ _ h => h) (Or.inl ⟨by rfl, ?_⟩) ?_ ?_
              rotate_left
              · intro w'
                go_simp
                with_reducible rfl
              rotate_left
              · simp only [Act.put, List.setIfInBounds_toArray, List.set_cons_zero, List.set_cons_succ, i64_w, i32_w]
                rfl
              refine pure_ (i := 2) (N := some 105) (v := ?_) (a' := ?_) #[true, false, true, false, false, false, false, false, false, false, false, false, false, false, false, false, false, false] rfl rfl (by kernel_rfl) (fun _ _ _ h => h) (Or.inl ⟨by rfl, ?_⟩) ?_ ?_
              rotate_left
              · intro w'
                go_simp
                with_reducible rfl
              rotate_left
              · simp only [Act.put, List.setIfInBounds_toArray, List.set_cons_zero, List.set_cons_succ, i64_w, i32_w]
                rfl
              refine pure_ (i := 3) (N := some 106) (v := ?_) (a' := ?_) #[true, false, true, true, false, false, false, false, false, false, false, false, false, false, false, false, false, false] rfl rfl (by kernel_rfl) (fun _ _ _ h => h) (Or.inl ⟨by rfl, ?_⟩) ?_ ?_
              rotate_left
              · intro w'
                go_simp
                with_reducible rfl
              rotate_left
              · simp only [Act.put, List.setIfInBounds_toArray, List.set_cons_zero, List.set_cons_succ, i64_w, i32_w]
                rfl
              refine pure_ (i := 4) (N := some 107) (v := ?_) (a' := ?_) #[true, false, true, true, true, false, false, false, false, false, false, false, false, false, false, false, false, false] rfl rfl (by kernel_rfl) (fun _ _ _ h => h) (Or.inl ⟨by rfl, ?_⟩) ?_ ?_
              rotate_left
              · intro w'
                go_simp
                with_reducible rfl
              rotate_left
              · simp only [Act.put, List.setIfInBounds_toArray, List.set_cons_zero, List.set_cons_succ, i64_w, i32_w]
                rfl
              refine pure_ (i := 6) (N := some 109) (v := ?_) (a' := ?_) #[true, false, true, true, true, false, true, false, false, false, false, false, false, false, false, false, false, false] rfl rfl (by kernel_rfl) (fun _ _ _ h => h) (Or.inl ⟨by rfl, ?_⟩) ?_ ?_
              rotate_left
              · intro w'
                go_simp
                with_reducible rfl
              rotate_left
              · simp only [Act.put, List.setIfInBounds_toArray, List.set_cons_zero, List.set_cons_succ, i64_w, i32_w]
                rfl
              refine pure_ (i := 9) (N := some 112) (v := ?_) (a' := ?_) #[true, false, true, true, true, false, true, false, false, true, false, false, false, false, false, false, false, false] rfl rfl (by kernel_rfl) (fun _ _ _ h => h) (Or.inl ⟨by rfl, ?_⟩) ?_ ?_
              rotate_left
              · intro w'
                go_simp
                with_reducible rfl
              rotate_left
              · simp only [Act.put, List.setIfInBounds_toArray, List.set_cons_zero, List.set_cons_succ, i64_w, i32_w]
                rfl
              refine pure_ (i := 10) (N := some 113) (v := ?_) (a' := ?_) #[true, false, true, true, true, false, true, false, false, true, true, false, false, false, false, false, false, false] rfl rfl (by kernel_rfl) (fun _ _ _ h => h) (Or.inl ⟨by rfl, ?_⟩) ?_ ?_
              rotate_left
              · intro w'
                go_simp
                with_reducible rfl
              rotate_left
              · simp only [Act.put, List.setIfInBounds_toArray, List.set_cons_zero, List.set_cons_succ, i64_w, i32_w]
                rfl
              refine pure_ (i := 11) (N := some 114) (v := ?_) (a' := ?_) #[true, false, true, true, true, false, true, false, false, true, true, true, false, false, false, false, false, false] rfl rfl (by kernel_rfl) (fun _ _ _ h => h) (Or.inl ⟨by rfl, ?_⟩) ?_ ?_
              rotate_left
              · intro w'
                go_simp
                with_reducible rfl
              rotate_left
              · simp only [Act.put, List.setIfInBounds_toArray, List.set_cons_zero, List.set_cons_succ, i64_w, i32_w]
                rfl
              refine take_ (i := 5) (N := some 108) (v := ?_) (a' := ?_) #[true, false, true, true, true, true, true, false, false, true, true, true, false, false, false, false, false, false] rfl rfl (by kernel_rfl) (fun _ _ _ h => h) (Or.inl ⟨by rfl, ?_⟩) hHeld ?_ ?_
              rotate_left
              · rintro w' ⟨s0, s1⟩
                go_simp
                with_reducible rfl
              rotate_left
              · simp only [Act.put, List.setIfInBounds_toArray, List.set_cons_zero, List.set_cons_succ, i64_w, i32_w]
                rfl
              refine pure_ (i := 7) (N := some 110) (v := ?_) (a' := ?_) #[true, false, true, true, true, true, true, true, false, true, true, true, false, false, false, false, false, false] rfl rfl (by kernel_rfl) (fun _ _ _ h => h) (Or.inl ⟨by rfl, ?_⟩) ?_ ?_
              rotate_left
              · intro w'
                go_simp
                with_reducible rfl
              rotate_left
              · simp only [Act.put, List.setIfInBounds_toArray, List.set_cons_zero, List.set_cons_succ, i64_w, i32_w]
                rfl
              refine take_ (i := 12) (N := some 115) (v := ?_) (a' := ?_) #[true, false, true, true, true, true, true, true, false, true, true, true, true, false, false, false, false, false] rfl rfl (by kernel_rfl) (fun _ _ _ h => h) (Or.inl ⟨by rfl, ?_⟩) hHeld ?_ ?_
              rotate_left
              · rintro w' ⟨s0, s1⟩
                go_simp
                with_reducible rfl
              rotate_left
              · simp only [Act.put, List.setIfInBounds_toArray, List.set_cons_zero, List.set_cons_succ, i64_w, i32_w]
                rfl
              refine join_ (σ := Value × Value × Value) 4 #[true, true, true, true, true, true, true, true, true, true, true, true, true, true, false, false, false, false] (fun s => [(104, s.1), (111, s.2.1), (116, s.2.2)]) (fun s w' => Below wd.heap.size wd w' ∧ Kd.R (Kd.int .i64) 3 w' wd.heap.size (fun _ => True) s.2.1 (tk_.take j) ∧ Kd.R (Kd.int .i64) 3 w' wd.heap.size (fun _ => True) s.2.2 [tv] ∧ (∀ q, s.2.1.ownBlock = some q → some q ≠ s.2.2.ownBlock)) ?_ ?_
              rotate_left
              · intro hCont
                refine two_ (i := 1) (j := 13) (Ni := some 104) (Nj := some 116) #[true, true, true, true, true, true, true, true, false, true, true, true, true, false, false, false, false, false] #[true, false, true, true, true, true, true, true, false, true, true, true, true, true, false, false, false, false] rfl rfl rfl rfl (by kernel_rfl) (by decide) (by decide) (fun K hK => ?_) (fun K hK => ?_)
                · skip
                  refine Kd.R_lit_step (Kd.int .i64) (w0 := wd) wd.heap.size 3 (by rfl) (N := 104) rfl (xs := []) (inner := []) (ok := fun _ => True) (okp := fun _ => False) ?hr (Reps.none _ _) (fun _ h => h.elim) trivial (Below.refl _ _) (Nat.le_refl _) (by simp) ?_
                  (case hr => first | (go_simp; done) | (go_simp; rfl))
                  intro v1 x1 r_ b_ g_ n_
                  have HBx1 := Aside0.mk b_
                  have HRx1 := Aside0.mk r_
                  have HGx1 := Aside0.mk g_
                  have HNx1 := Aside0.mk n_
                  clear b_ r_ g_ n_
                  refine hK.out _ _ ⟨pw_cell_below (HBx1.out) (HHD.out.1), pw_cell_below (HBx1.out) (HHD.out.2)⟩ (fun hHeld => ?_)
                  clear hK K
                  refine norm_ (a' := ?_) ?_ ?_
                  rotate_left
                  · show Act.put _ (some 104) _ = _
                    simp only [Act.put, List.setIfInBounds_toArray, List.set_cons_zero, List.set_cons_succ, i64_w, i32_w]
                    rfl
                  refine two_ (i := 8) (j := 13) (Ni := some 111) (Nj := some 116) #[true, true, true, true, true, true, true, true, true, true, true, true, true, false, false, false, false, false] #[true, true, true, true, true, true, true, true, false, true, true, true, true, true, false, false, false, false] rfl rfl rfl rfl (by kernel_rfl) (by decide) (by decide) (fun K hK => ?_) (fun K hK => ?_)
                  · skip
                    have hsz_ : wd.heap.size ≤ x1.heap.size := HBx1.out.size
                    refine Kd.R_append_rows_step (Kd.int .i64) (Rr := ((Kd.int .i64)).K x1) (w0 := wd) wd.heap.size (by rfl) (.tmp 104) (.tmp 110) 24 3 (.int .i64 0) 8 rfl Try.underlying24 info3 rfl (by decide) (by omega) v1 [] (tk_.take j) A1 j c1 (fun _ => True) (fun _ => False) rfl rfl ?aO ?aC (fun _ _ h => h) (fun _ hk => hk.elim) ?aF HBx1.out hsz_ ?aL ?_
                    (case aO => exact HRx1.out)
                    (case aC => exact Kd.C_below HCT.out HBx1.out)
                    (case aF => exact (fun _ _ => trivial))
                    (case aL => have := HJ64.out; simp; omega)
                    intro v8 x8 r_ b_ g_ n_
                    have HBx8 := Aside0.mk b_
                    have HRx8 := Aside0.mk r_
                    have HGx8 := Aside0.mk g_
                    have HNx8 := Aside0.mk n_
                    clear b_ r_ g_ n_
                    clear hsz_
                    refine hK.out _ _ ⟨pw_cell_below (HBx8.out) (HHD.out.1), pw_cell_below (HBx8.out) (HHD.out.2)⟩ (fun hHeld => ?_)
                    clear hK K
                    refine norm_ (a' := ?_) ?_ ?_
                    rotate_left
                    · show Act.put _ (some 111) _ = _
                      simp only [Act.put, List.setIfInBounds_toArray, List.set_cons_zero, List.set_cons_succ, i64_w, i32_w]
                      rfl
                    refine one_ (i := 13) (N := some 116) #[true, true, true, true, true, true, true, true, true, true, true, true, true, true, false, false, false, false] rfl rfl (by kernel_rfl) (by decide) (fun K hK => ?_)
                    refine Kd.R_lit_step (Kd.int .i64) (w0 := wd) wd.heap.size 3 (by rfl) (N := 116) rfl (xs := [tv]) (inner := [.int .i64 tv]) (ok := fun _ => True) (okp := fun _ => False) ?hr (Reps.cons_ (show (Kd.int .i64).M _ _ _ tv [.int .i64 tv] from rfl) rfl (Reps.none _ _)) (fun _ h => h.elim) trivial HBx8.out HBx8.out.size (by simp) ?_
                    (case hr => first | (go_simp; done) | (go_simp; rfl))
                    intro v13 x13 r_ b_ g_ n_
                    have HBx13 := Aside0.mk b_
                    have HRx13 := Aside0.mk r_
                    have HGx13 := Aside0.mk g_
                    have HNx13 := Aside0.mk n_
                    clear b_ r_ g_ n_
                    obtain ⟨Ao, co, eo_⟩ : ∃ A c, v13 = Value.slice A 1 c := Kd.R_slice HRx13.out
                    subst eo_
                    refine hK.out _ _ ⟨pw_cell_below (HBx13.out) (HHD.out.1), pw_cell_below (HBx13.out) (HHD.out.2)⟩ (fun hHeld => ?_)
                    clear hK K
                    refine norm_ (a' := ?_) ?_ ?_
                    rotate_left
                    · show Act.put _ (some 116) _ = _
                      simp only [Act.put, List.setIfInBounds_toArray, List.set_cons_zero, List.set_cons_succ, i64_w, i32_w]
                      rfl
                    exact norm_ (by simp only [putAll, Act.put, List.setIfInBounds_toArray, List.set_cons_zero, List.set_cons_succ]) (hCont (v1, v8, Value.slice Ao 1 co) _ ⟨HBx13.out, Kd.R_below HRx8.out (grown_below HGx13.out), HRx13.out, fun q hq he => by obtain ⟨b_, hb_, hl_⟩ := HNx13.out; have h1_ := (Kd.R_bound HRx8.out).1 q hq; have e0_ : some q = some b_ := he.trans hb_; injection e0_ with e_; have h2_ := h1_.2.2.1; omega⟩)
                  · skip
                    refine Kd.R_lit_step (Kd.int .i64) (w0 := wd) wd.heap.size 3 (by rfl) (N := 116) rfl (xs := [tv]) (inner := [.int .i64 tv]) (ok := fun _ => True) (okp := fun _ => False) ?hr (Reps.cons_ (show (Kd.int .i64).M _ _ _ tv [.int .i64 tv] from rfl) rfl (Reps.none _ _)) (fun _ h => h.elim) trivial HBx1.out HBx1.out.size (by simp) ?_
                    (case hr => first | (go_simp; done) | (go_simp; rfl))
                    intro v13 x13 r_ b_ g_ n_
                    have HBx13 := Aside0.mk b_
                    have HRx13 := Aside0.mk r_
                    have HGx13 := Aside0.mk g_
                    have HNx13 := Aside0.mk n_
                    clear b_ r_ g_ n_
                    obtain ⟨Ao, co, eo_⟩ : ∃ A c, v13 = Value.slice A 1 c := Kd.R_slice HRx13.out
                    subst eo_
                    refine hK.out _ _ ⟨pw_cell_below (HBx13.out) (HHD.out.1), pw_cell_below (HBx13.out) (HHD.out.2)⟩ (fun hHeld => ?_)
                    clear hK K
                    refine norm_ (a' := ?_) ?_ ?_
                    rotate_left
                    · show Act.put _ (some 116) _ = _
                      simp only [Act.put, List.setIfInBounds_toArray, List.set_cons_zero, List.set_cons_succ, i64_w, i32_w]
                      rfl
                    refine one_ (i := 8) (N := some 111) #[true, true, true, true, true, true, true, true, true, true, true, true, true, true, false, false, false, false] rfl rfl (by kernel_rfl) (by decide) (fun K hK => ?_)
                    have hsz_ : wd.heap.size ≤ x13.heap.size := HBx13.out.size
                    refine Kd.R_append_rows_step (Kd.int .i64) (Rr := ((Kd.int .i64)).K x13) (w0 := wd) wd.heap.size (by rfl) (.tmp 104) (.tmp 110) 24 3 (.int .i64 0) 8 rfl Try.underlying24 info3 rfl (by decide) (by omega) v1 [] (tk_.take j) A1 j c1 (fun q => some q ≠ (Value.slice Ao 1 co).ownBlock) (fun _ => False) rfl rfl ?aO ?aC (fun _ _ h => h) (fun _ hk => hk.elim) ?aF HBx13.out hsz_ ?aL ?_
                    (case aO => exact (Kd.R_reok rfl (Kd.R_below HRx1.out (grown_below HGx13.out)) (fun q hq he => by obtain ⟨b_, hb_, hl_⟩ := HNx13.out; have h1_ := (Kd.R_bound HRx1.out).1 q hq; have e0_ : some q = some b_ := he.trans hb_; injection e0_ with e_; have h2_ := h1_.2.2.1; omega)))
                    (case aC => exact Kd.C_below HCT.out HBx13.out)
                    (case aF => exact (fun q hq he => by have h1_ := (Kd.R_bound (HRx13.out)).1 q he.symm; have h2_ := h1_.2.2.1; omega))
                    (case aL => have := HJ64.out; simp; omega)
                    intro v8 x8 r_ b_ g_ n_
                    have HBx8 := Aside0.mk b_
                    have HRx8 := Aside0.mk r_
                    have HGx8 := Aside0.mk g_
                    have HNx8 := Aside0.mk n_
                    clear b_ r_ g_ n_
                    clear hsz_
                    refine hK.out _ _ ⟨pw_cell_below (HBx8.out) (HHD.out.1), pw_cell_below (HBx8.out) (HHD.out.2)⟩ (fun hHeld => ?_)
                    clear hK K
                    refine norm_ (a' := ?_) ?_ ?_
                    rotate_left
                    · show Act.put _ (some 111) _ = _
                      simp only [Act.put, List.setIfInBounds_toArray, List.set_cons_zero, List.set_cons_succ, i64_w, i32_w]
                      rfl
                    exact norm_ (by simp only [putAll, Act.put, List.setIfInBounds_toArray, List.set_cons_zero, List.set_cons_succ]) (hCont (v1, v8, Value.slice Ao 1 co) _ ⟨HBx8.out, Kd.R_mono HRx8.out (fun _ _ => trivial), Kd.R_grown2 HRx13.out rfl HGx8.out (fun q hq he => by obtain ⟨b_, hb_, hl_⟩ := HNx13.out; have h1_ := (Kd.R_bound HRx1.out).1 q hq; have e0_ : some q = some b_ := he.trans hb_; injection e0_ with e_; have h2_ := h1_.2.2.1; omega), fun q hq he => HRx8.out.1 q hq he⟩)
                · skip
                  refine Kd.R_lit_step (Kd.int .i64) (w0 := wd) wd.heap.size 3 (by rfl) (N := 116) rfl (xs := [tv]) (inner := [.int .i64 tv]) (ok := fun _ => True) (okp := fun _ => False) ?hr (Reps.cons_ (show (Kd.int .i64).M _ _ _ tv [.int .i64 tv] from rfl) rfl (Reps.none _ _)) (fun _ h => h.elim) trivial (Below.refl _ _) (Nat.le_refl _) (by simp) ?_
                  (case hr => first | (go_simp; done) | (go_simp; rfl))
                  intro v13 x13 r_ b_ g_ n_
                  have HBx13 := Aside0.mk b_
                  have HRx13 := Aside0.mk r_
                  have HGx13 := Aside0.mk g_
                  have HNx13 := Aside0.mk n_
                  clear b_ r_ g_ n_
                  obtain ⟨Ao, co, eo_⟩ : ∃ A c, v13 = Value.slice A 1 c := Kd.R_slice HRx13.out
                  subst eo_
                  refine hK.out _ _ ⟨pw_cell_below (HBx13.out) (HHD.out.1), pw_cell_below (HBx13.out) (HHD.out.2)⟩ (fun hHeld => ?_)
                  clear hK K
                  refine norm_ (a' := ?_) ?_ ?_
                  rotate_left
                  · show Act.put _ (some 116) _ = _
                    simp only [Act.put, List.setIfInBounds_toArray, List.set_cons_zero, List.set_cons_succ, i64_w, i32_w]
                    rfl
                  refine one_ (i := 1) (N := some 104) #[true, true, true, true, true, true, true, true, false, true, true, true, true, true, false, false, false, false] rfl rfl (by kernel_rfl) (by decide) (fun K hK => ?_)
                  refine Kd.R_lit_step (Kd.int .i64) (w0 := wd) wd.heap.size 3 (by rfl) (N := 104) rfl (xs := []) (inner := []) (ok := fun _ => True) (okp := fun _ => False) ?hr (Reps.none _ _) (fun _ h => h.elim) trivial HBx13.out HBx13.out.size (by simp) ?_
                  (case hr => first | (go_simp; done) | (go_simp; rfl))
                  intro v1 x1 r_ b_ g_ n_
                  have HBx1 := Aside0.mk b_
                  have HRx1 := Aside0.mk r_
                  have HGx1 := Aside0.mk g_
                  have HNx1 := Aside0.mk n_
                  clear b_ r_ g_ n_
                  refine hK.out _ _ ⟨pw_cell_below (HBx1.out) (HHD.out.1), pw_cell_below (HBx1.out) (HHD.out.2)⟩ (fun hHeld => ?_)
                  clear hK K
                  refine norm_ (a' := ?_) ?_ ?_
                  rotate_left
                  · show Act.put _ (some 104) _ = _
                    simp only [Act.put, List.setIfInBounds_toArray, List.set_cons_zero, List.set_cons_succ, i64_w, i32_w]
                    rfl
                  refine one_ (i := 8) (N := some 111) #[true, true, true, true, true, true, true, true, true, true, true, true, true, true, false, false, false, false] rfl rfl (by kernel_rfl) (by decide) (fun K hK => ?_)
                  have hsz_ : wd.heap.size ≤ x1.heap.size := HBx1.out.size
                  refine Kd.R_append_rows_step (Kd.int .i64) (Rr := ((Kd.int .i64)).K x1) (w0 := wd) wd.heap.size (by rfl) (.tmp 104) (.tmp 110) 24 3 (.int .i64 0) 8 rfl Try.underlying24 info3 rfl (by decide) (by omega) v1 [] (tk_.take j) A1 j c1 (fun q => some q ≠ (Value.slice Ao 1 co).ownBlock) (fun _ => False) rfl rfl ?aO ?aC (fun _ _ h => h) (fun _ hk => hk.elim) ?aF HBx1.out hsz_ ?aL ?_
                  (case aO => exact (Kd.R_reok rfl HRx1.out (fun q hq he => by obtain ⟨b_, hb_, hl_⟩ := HNx1.out; have h1_ := (Kd.R_bound HRx13.out).1 q he.symm; have e0_ : some b_ = some q := hb_.symm.trans hq; injection e0_ with e_; have h2_ := h1_.2.2.1; omega)))
                  (case aC => exact Kd.C_below HCT.out HBx1.out)
                  (case aF => exact (fun q hq he => by have h1_ := (Kd.R_bound (Kd.R_below HRx13.out (grown_below HGx1.out))).1 q he.symm; have h2_ := h1_.2.2.1; omega))
                  (case aL => have := HJ64.out; simp; omega)
                  intro v8 x8 r_ b_ g_ n_
                  have HBx8 := Aside0.mk b_
                  have HRx8 := Aside0.mk r_
                  have HGx8 := Aside0.mk g_
                  have HNx8 := Aside0.mk n_
                  clear b_ r_ g_ n_
                  clear hsz_
                  refine hK.out _ _ ⟨pw_cell_below (HBx8.out) (HHD.out.1), pw_cell_below (HBx8.out) (HHD.out.2)⟩ (fun hHeld => ?_)
                  clear hK K
                  refine norm_ (a' := ?_) ?_ ?_
                  rotate_left
                  · show Act.put _ (some 111) _ = _
                    simp only [Act.put, List.setIfInBounds_toArray, List.set_cons_zero, List.set_cons_succ, i64_w, i32_w]
                    rfl
                  exact norm_ (by simp only [putAll, Act.put, List.setIfInBounds_toArray, List.set_cons_zero, List.set_cons_succ]) (hCont (v1, v8, Value.slice Ao 1 co) _ ⟨HBx8.out, Kd.R_mono HRx8.out (fun _ _ => trivial), Kd.R_grown2 (Kd.R_below HRx13.out (grown_below HGx1.out)) rfl HGx8.out (fun q hq he => by obtain ⟨b_, hb_, hl_⟩ := HNx1.out; have h1_ := (Kd.R_bound HRx13.out).1 q he.symm; have e0_ : some b_ = some q := hb_.symm.trans hq; injection e0_ with e_; have h2_ := h1_.2.2.1; omega), fun q hq he => HRx8.out.1 q hq he⟩)
              rintro ⟨v1, v8, v13⟩ w4 ⟨hb4, hr8, hr13, hne4⟩
              obtain ⟨Ao, co, eo_⟩ : ∃ A c, v13 = Value.slice A 1 c := Kd.R_slice hr13
              subst eo_
              have HB4 := Aside0.mk hb4
              have HR8 := Aside0.mk hr8
              have HR13 := Aside0.mk hr13
              have HNE4 := Aside0.mk hne4
              clear hb4 hr8 hr13 hne4
              have hHeld : w4.cell? ⟨g, 1, none⟩ = some (Value.slice A1 tk_.length c1) ∧ w4.cell? (adt.add k) = some (Value.int .i64 tv) := ⟨pw_cell_below (HB4.out) (HHD.out.1), pw_cell_below (HB4.out) (HHD.out.2)⟩
              refine norm_ (a' := ?_) ?_ ?_
              rotate_left
              · simp only [putAll, Act.put, List.setIfInBounds_toArray, List.set_cons_zero, List.set_cons_succ]
                rfl
              refine last_ (i := 14) (N := some 117) #[true, true, true, true, true, true, true, true, true, true, true, true, true, true, true, false, false, false] rfl rfl (by kernel_rfl) (by decide) (fun K hK => ?_)
              have hsz_ : wd.heap.size ≤ w4.heap.size := HB4.out.size
              refine Kd.R_append_rows_step (Kd.int .i64) (Rr := ((Kd.int .i64)).K w4) (w0 := wd) wd.heap.size (by rfl) (.tmp 111) (.tmp 116) 24 3 (.int .i64 0) 8 rfl Try.underlying24 info3 rfl (by decide) (by omega) v8 (tk_.take j) [tv] Ao 1 co (fun _ => True) (fun _ => False) rfl rfl ?aO ?aC (fun _ _ h => h) (fun _ hk => hk.elim) ?aF HB4.out hsz_ ?aL ?_
              (case aO => exact HR8.out)
              (case aC => exact (Kd.R_reads' HR13.out).2.2)
              (case aF => exact fun _ _ => trivial)
              (case aL => have := HJ64.out; have := HJT.out; simp only [List.length_take]; omega)
              intro v5 w5 r_ b_ g_ n_
              obtain ⟨At5, ct5, ev_⟩ : ∃ A c, v5 = Value.slice A (j + 1) c := by have h_ := Kd.R_slice r_; rw [HLT5.out] at h_; exact h_
              subst ev_
              have HB5 := Aside0.mk b_
              have HR5 := Aside0.mk r_
              clear b_ r_ g_ n_ hsz_
              refine hK.out _ _ ?_
              clear hK K
              refine norm_ (a' := ?_) ?_ ?_
              rotate_left
              · show Act.put _ (some 117) _ = _
                simp only [Act.put, List.setIfInBounds_toArray, List.set_cons_zero, List.set_cons_succ, i64_w, i32_w]
                rfl
              refine pure_ (i := 15) (N := some 118) (v := ?_) (a' := ?_) #[true, true, true, true, true, true, true, true, true, true, true, true, true, true, true, true, false, false] rfl rfl (by kernel_rfl) (fun _ _ _ h => h) (Or.inl ⟨by rfl, ?_⟩) ?_ ?_
              rotate_left
              · intro w'
                go_simp
                with_reducible rfl
              rotate_left
              · simp only [Act.put, List.setIfInBounds_toArray, List.set_cons_zero, List.set_cons_succ, i64_w, i32_w]
                rfl
              refine pure_ (i := 16) (N := some 119) (v := ?_) (a' := ?_) #[true, true, true, true, true, true, true, true, true, true, true, true, true, true, true, true, true, false] rfl rfl (by kernel_rfl) (fun _ _ _ h => h) (Or.inl ⟨by rfl, ?_⟩) ?_ ?_
              rotate_left
              · intro w'
                go_simp
                with_reducible rfl
              rotate_left
              · simp only [Act.put, List.setIfInBounds_toArray, List.set_cons_zero, List.set_cons_succ, i64_w, i32_w]
                rfl
              refine last_ (i := 17) (N := none) #[true, true, true, true, true, true, true, true, true, true, true, true, true, true, true, true, true, true] rfl rfl (by kernel_rfl) (by decide) (fun K hK => ?_)
              have hb5 := blk_below BG.out HB5.out
              have BG5 := Aside0.mk hb5
              have hs5 : w5.cell? ⟨g, 1, none⟩ = some (Value.slice A1 tk_.length c1) := (blk_cell hb5 1).trans rfl
              have hf5 := blk_frozen hb5 1
              clear hb5
              refine skip_ (w1 := ?_) (by rfl) rfl ?_ ?_
              rotate_left
              · go_simp
                rfl
              refine hK.out _ _ ?_
              clear hK K
              refine done_ (by kernel_rfl) ?_
              clear hHeld hs5 hf5
              generalize hwe : World.setCell w5 ⟨g, 1, none⟩ _ = we
              have hfr : ∀ q, q ≠ g → we.heap[q]? = w5.heap[q]? := fun q hq => by rw [← hwe]; exact Below.heap_setCell w5 _ _ q hq
              have hbe : we.heap[g]? = some (.cells #[.int .i64 b, .slice At5 (j + 1) ct5, .slice A2 ek_.length c2] 67 (0, 0)) := by rw [← hwe]; simpa using blk_set BG5.out 1 (.slice At5 (j + 1) ct5)
              have hsz5 : we.heap.size = w5.heap.size := by rw [← hwe]; simp [World.setCell]
              have hgn : g < wn.heap.size := blk_lt BGr.out
              have hbn5 : Below wn.heap.size wn w5 := below_then HBD.out HBD.out.size HB5.out
              have hkn : Kept Fk wn we := by rw [← hwe]; exact (Kept.of_below hbn5).trans (fun q hq => .inl hq) (kept_set w5 _ _ HG0.out)
              have hkr : Kept F W we := HKR.out.trans HF.out ((Kept.of_below HBN.out).trans (fun q hq => .inl hq) hkn)
              have HSE := Aside0.mk (show wn.heap.size ≤ we.heap.size from hkn.size)
              have HRTe := Aside0.mk (Kd.R_lower (Kd.R_step (w1 := we) (Kd.R_mono (Kd.R_bound HR5.out) (ok' := fun q => wn.heap.size ≤ q) (fun q hq => by have := hq.2.1; have := HSZ.out; omega)) (fun q hq _ => hfr q (by omega))) (show B ≤ wd.heap.size from Nat.le_trans HBW.out (Nat.le_trans HKR.out.size (Nat.le_trans HBN.out.size HBD.out.size))))
              have HREe := Aside0.mk (Kd.R_step (w1 := we) (Kd.R_below HRE.out hbn5) (fun q hq _ => hfr q hq.2))
              have HKN := Aside0.mk hkn
              have HKE := Aside0.mk hkr
              have HFRE := Aside0.mk hbe
              obtain ⟨ad', A4, c4, hade, hx0, hx1, hx2, hx3, hx4, hx5, hxc, hxC⟩ := at_T77 (HE.out we hkr) (k : Int) (by omega) (by omega)
              injection hade with hade
              subst hade
              rw [Int.toNat_natCast] at hx0 hx1 hx2 hx3 hx4 hx5
              rw [HEK.out] at hx0 hx1 hx2 hx3 hx4 hx5
              have HBD2 := Aside0.mk (show Below we.heap.size we we.drew from below_drew (Below.refl _ _))
              have HY0 := Aside0.mk (pw_cell_below HBD2.out hx0)
              have HY1 := Aside0.mk (pw_cell_below HBD2.out hx1)
              have HY2 := Aside0.mk (pw_cell_below HBD2.out hx2)
              have HY3 := Aside0.mk (pw_cell_below HBD2.out hx3)
              have HY4 := Aside0.mk (pw_cell_below HBD2.out hx4)
              have HY5 := Aside0.mk (pw_cell_below HBD2.out hx5)
              have hCEk := Kd.C_take (Kd.R_reads' HREe.out).2.2 (m := j) (by have := HJT.out; omega)
              rw [show (ek_.take j).length = j by rw [List.length_take]; have := HJT.out; omega] at hCEk
              have HCE := Aside0.mk (Kd.C_below hCEk HBD2.out)
              clear hCEk hx0 hx1 hx2 hx3 hx4 hx5 hxc hxC hkr hkn hbn5 hsz5 hwe hfr HB5 HR5 BG5 HHD HTC HCT HNE4 HR8 HR13 HB4 BG
              have BG := Aside0.mk (blk_below hbe HBD2.out)
              have HSZ2 := Aside0.mk (show we.drew.heap.size = we.heap.size from rfl)
              clear hbe hgn
              go_wp2
              refine start_ (n := 18) (S := fun w' => w'.cell? ⟨g, 2, none⟩ = some (Value.slice A2 ek_.length c2) ∧ w'.cell? (ad.add (k * 6)) = some (Value.int .i64 e.f0) ∧ w'.cell? ⟨(ad.add (k * 6)).block, (ad.add (k * 6)).off + 1, none⟩ = some (Value.int .i64 e.f1) ∧ w'.cell? ⟨(ad.add (k * 6)).block, (ad.add (k * 6)).off + 2, none⟩ = some (Value.int .i64 e.f2) ∧ w'.cell? ⟨(ad.add (k * 6)).block, (ad.add (k * 6)).off + 3, none⟩ = some (Value.string e.f3) ∧ w'.cell? ⟨(ad.add (k * 6)).block, (ad.add (k * 6)).off + 4, none⟩ = some (Value.slice A4 e.f4.length c4) ∧ w'.cell? ⟨(ad.add (k * 6)).block, (ad.add (k * 6)).off + 5, none⟩ = some (Value.int .i64 e.f5)) (ds := [14, 17]) #[false, false, false, false, false, false, false, false, false, false, false, false, false, false, false, false, false, false] (by kernel_rfl) rfl rfl ⟨(blk_cell BG.out 2).trans rfl, HY0.out, HY1.out, HY2.out, HY3.out, HY4.out, HY5.out⟩ (fun hHeld => ?_)
              have HHD := Aside0.mk hHeld
              generalize we.drew = wd at HBD2 BG HY0 HY1 HY2 HY3 HY4 HY5 HCE HSZ2 HHD hHeld ⊢
              refine pure_ (i := 0) (N := some 120) (v := ?_) (a' := ?_) #[true, false, false, false, false, false, false, false, false, false, false, false, false, false, false, false, false, false] rfl rfl (by kernel_rfl) (fun _ _ _ h => h) (Or.inl ⟨by rfl, ?_⟩) ?_ ?_
              rotate_left
              · intro w'
                go_simp
                with_reducible rfl
              rotate_left
              · simp only [Act.put, List.setIfInBounds_toArray, List.set_cons_zero, List.set_cons_succ, i64_w, i32_w]
                rfl
              refine pure_ (i := 2) (N := some 122) (v := ?_) (a' := ?_) #[true, false, true, false, false, false, false, false, false, false, false, false, false, false, false, false, false, false] rfl rfl (by kernel_rfl) (fun _ _ _ h => h) (Or.inl ⟨by rfl, ?_⟩) ?_ ?_
              rotate_left
              · intro w'
                go_simp
                with_reducible rfl
              rotate_left
              · simp only [Act.put, List.setIfInBounds_toArray, List.set_cons_zero, List.set_cons_succ, i64_w, i32_w]
                rfl
              refine pure_ (i := 3) (N := some 123) (v := ?_) (a' := ?_) #[true, false, true, true, false, false, false, false, false, false, false, false, false, false, false, false, false, false] rfl rfl (by kernel_rfl) (fun _ _ _ h => h) (Or.inl ⟨by rfl, ?_⟩) ?_ ?_
              rotate_left
              · intro w'
                go_simp
                with_reducible rfl
              rotate_left
              · simp only [Act.put, List.setIfInBounds_toArray, List.set_cons_zero, List.set_cons_succ, i64_w, i32_w]
                rfl
              refine pure_ (i := 4) (N := some 124) (v := ?_) (a' := ?_) #[true, false, true, true, true, false, false, false, false, false, false, false, false, false, false, false, false, false] rfl rfl (by kernel_rfl) (fun _ _ _ h => h) (Or.inl ⟨by rfl, ?_⟩) ?_ ?_
              rotate_left
              · intro w'
                go_simp
                with_reducible rfl
              rotate_left
              · simp only [Act.put, List.setIfInBounds_toArray, List.set_cons_zero, List.set_cons_succ, i64_w, i32_w]
                rfl
              refine pure_ (i := 6) (N := some 126) (v := ?_) (a' := ?_) #[true, false, true, true, true, false, true, false, false, false, false, false, false, false, false, false, false, false] rfl rfl (by kernel_rfl) (fun _ _ _ h => h) (Or.inl ⟨by rfl, ?_⟩) ?_ ?_
              rotate_left
              · intro w'
                go_simp
                with_reducible rfl
              rotate_left
              · simp only [Act.put, List.setIfInBounds_toArray, List.set_cons_zero, List.set_cons_succ, i64_w, i32_w]
                rfl
              refine pure_ (i := 9) (N := some 129) (v := ?_) (a' := ?_) #[true, false, true, true, true, false, true, false, false, true, false, false, false, false, false, false, false, false] rfl rfl (by kernel_rfl) (fun _ _ _ h => h) (Or.inl ⟨by rfl, ?_⟩) ?_ ?_
              rotate_left
              · intro w'
                go_simp
                with_reducible rfl
              rotate_left
              · simp only [Act.put, List.setIfInBounds_toArray, List.set_cons_zero, List.set_cons_succ, i64_w, i32_w]
                rfl
              refine pure_ (i := 10) (N := some 130) (v := ?_) (a' := ?_) #[true, false, true, true, true, false, true, false, false, true, true, false, false, false, false, false, false, false] rfl rfl (by kernel_rfl) (fun _ _ _ h => h) (Or.inl ⟨by rfl, ?_⟩) ?_ ?_
              rotate_left
              · intro w'
                go_simp
                with_reducible rfl
              rotate_left
              · simp only [Act.put, List.setIfInBounds_toArray, List.set_cons_zero, List.set_cons_succ, i64_w, i32_w]
                rfl
              refine pure_ (i := 11) (N := some 131) (v := ?_) (a' := ?_) #[true, false, true, true, true, false, true, false, false, true, true, true, false, false, false, false, false, false] rfl rfl (by kernel_rfl) (fun _ _ _ h => h) (Or.inl ⟨by rfl, ?_⟩) ?_ ?_
              rotate_left
              · intro w'
                go_simp
                with_reducible rfl
              rotate_left
              · simp only [Act.put, List.setIfInBounds_toArray, List.set_cons_zero, List.set_cons_succ, i64_w, i32_w]
                rfl
              refine take_ (i := 5) (N := some 125) (v := ?_) (a' := ?_) #[true, false, true, true, true, true, true, false, false, true, true, true, false, false, false, false, false, false] rfl rfl (by kernel_rfl) (fun _ _ _ h => h) (Or.inl ⟨by rfl, ?_⟩) hHeld ?_ ?_
              rotate_left
              · rintro w' ⟨s0, s1, s2, s3, s4, s5, s6⟩
                go_simp
                with_reducible rfl
              rotate_left
              · simp only [Act.put, List.setIfInBounds_toArray, List.set_cons_zero, List.set_cons_succ, i64_w, i32_w]
                rfl
              refine pure_ (i := 7) (N := some 127) (v := ?_) (a' := ?_) #[true, false, true, true, true, true, true, true, false, true, true, true, false, false, false, false, false, false] rfl rfl (by kernel_rfl) (fun _ _ _ h => h) (Or.inl ⟨by rfl, ?_⟩) ?_ ?_
              rotate_left
              · intro w'
                go_simp
                with_reducible rfl
              rotate_left
              · simp only [Act.put, List.setIfInBounds_toArray, List.set_cons_zero, List.set_cons_succ, i64_w, i32_w]
                rfl
              refine take_ (i := 12) (N := some 132) (v := ?_) (a' := ?_) #[true, false, true, true, true, true, true, true, false, true, true, true, true, false, false, false, false, false] rfl rfl (by kernel_rfl) (fun _ _ _ h => h) (Or.inl ⟨by rfl, ?_⟩) hHeld ?_ ?_
              rotate_left
              · rintro w' ⟨s0, s1, s2, s3, s4, s5, s6⟩
                go_simp
                with_reducible rfl
              rotate_left
              · simp only [Act.put, List.setIfInBounds_toArray, List.set_cons_zero, List.set_cons_succ, i64_w, i32_w]
                rfl
              refine join_ (σ := Value × Value × Value) 4 #[true, true, true, true, true, true, true, true, true, true, true, true, true, true, false, false, false, false] (fun s => [(121, s.1), (128, s.2.1), (133, s.2.2)]) (fun s w' => Below wd.heap.size wd w' ∧ Kd.R kq 77 w' wd.heap.size (fun _ => True) s.2.1 (ek_.take j) ∧ Kd.R kq 77 w' wd.heap.size (fun _ => True) s.2.2 [e] ∧ (∀ q, s.2.1.ownBlock = some q → some q ≠ s.2.2.ownBlock)) ?_ ?_
              rotate_left
              · intro hCont
                refine two_ (i := 1) (j := 13) (Ni := some 121) (Nj := some 133) #[true, true, true, true, true, true, true, true, false, true, true, true, true, false, false, false, false, false] #[true, false, true, true, true, true, true, true, false, true, true, true, true, true, false, false, false, false] rfl rfl rfl rfl (by kernel_rfl) (by decide) (by decide) (fun K hK => ?_) (fun K hK => ?_)
                · skip
                  refine Kd.R_lit_step kq (w0 := wd) wd.heap.size 77 (by rfl) (N := 121) rfl (xs := []) (inner := []) (ok := fun _ => True) (okp := fun _ => False) ?hr (Reps.none _ _) (fun _ h => h.elim) trivial (Below.refl _ _) (Nat.le_refl _) (by simp) ?_
                  (case hr => first | (go_simp; done) | (go_simp; rfl))
                  intro v1 x1 r_ b_ g_ n_
                  have HBx1 := Aside0.mk b_
                  have HRx1 := Aside0.mk r_
                  have HGx1 := Aside0.mk g_
                  have HNx1 := Aside0.mk n_
                  clear b_ r_ g_ n_
                  refine hK.out _ _ ⟨pw_cell_below (HBx1.out) (HHD.out.1), pw_cell_below (HBx1.out) (HHD.out.2.1), pw_cell_below (HBx1.out) (HHD.out.2.2.1), pw_cell_below (HBx1.out) (HHD.out.2.2.2.1), pw_cell_below (HBx1.out) (HHD.out.2.2.2.2.1), pw_cell_below (HBx1.out) (HHD.out.2.2.2.2.2.1), pw_cell_below (HBx1.out) (HHD.out.2.2.2.2.2.2)⟩ (fun hHeld => ?_)
                  clear hK K
                  refine norm_ (a' := ?_) ?_ ?_
                  rotate_left
                  · show Act.put _ (some 121) _ = _
                    simp only [Act.put, List.setIfInBounds_toArray, List.set_cons_zero, List.set_cons_succ, i64_w, i32_w]
                    rfl
                  refine two_ (i := 8) (j := 13) (Ni := some 128) (Nj := some 133) #[true, true, true, true, true, true, true, true, true, true, true, true, true, false, false, false, false, false] #[true, true, true, true, true, true, true, true, false, true, true, true, true, true, false, false, false, false] rfl rfl rfl rfl (by kernel_rfl) (by decide) (by decide) (fun K hK => ?_) (fun K hK => ?_)
                  · skip
                    have hsz_ : wd.heap.size ≤ x1.heap.size := HBx1.out.size
                    refine Kd.R_append_rows_step kq (Rr := (kq).K x1) (w0 := wd) wd.heap.size (by rfl) (.tmp 121) (.tmp 127) 52 77 (.agg #[.int .i64 0, .int .i64 0, .int .i64 0, .string ⟨#[]⟩, .slice none 0 0, .int .i64 0]) 72 rfl Try.underlying52 info77f rfl (by decide) (by omega) v1 [] (ek_.take j) A2 j c2 (fun _ => True) (fun _ => False) rfl rfl ?aO ?aC (fun _ _ h => kq_M h) (fun _ hk => hk.elim) ?aF HBx1.out hsz_ ?aL ?_
                    (case aO => exact HRx1.out)
                    (case aC => exact Kd.C_below HCE.out HBx1.out)
                    (case aF => exact (fun _ _ => trivial))
                    (case aL => have := HJ64.out; simp; omega)
                    intro v8 x8 r_ b_ g_ n_
                    have HBx8 := Aside0.mk b_
                    have HRx8 := Aside0.mk r_
                    have HGx8 := Aside0.mk g_
                    have HNx8 := Aside0.mk n_
                    clear b_ r_ g_ n_
                    clear hsz_
                    refine hK.out _ _ ⟨pw_cell_below (HBx8.out) (HHD.out.1), pw_cell_below (HBx8.out) (HHD.out.2.1), pw_cell_below (HBx8.out) (HHD.out.2.2.1), pw_cell_below (HBx8.out) (HHD.out.2.2.2.1), pw_cell_below (HBx8.out) (HHD.out.2.2.2.2.1), pw_cell_below (HBx8.out) (HHD.out.2.2.2.2.2.1), pw_cell_below (HBx8.out) (HHD.out.2.2.2.2.2.2)⟩ (fun hHeld => ?_)
                    clear hK K
                    refine norm_ (a' := ?_) ?_ ?_
                    rotate_left
                    · show Act.put _ (some 128) _ = _
                      simp only [Act.put, List.setIfInBounds_toArray, List.set_cons_zero, List.set_cons_succ, i64_w, i32_w]
                      rfl
                    refine one_ (i := 13) (N := some 133) #[true, true, true, true, true, true, true, true, true, true, true, true, true, true, false, false, false, false] rfl rfl (by kernel_rfl) (by decide) (fun K hK => ?_)
                    refine Kd.R_lit_step kq (w0 := wd) wd.heap.size 77 (by rfl) (N := 133) rfl (xs := [e]) (inner := [.int .i64 e.f0, .int .i64 e.f1, .int .i64 e.f2, .string e.f3, .slice A4 e.f4.length c4, .int .i64 e.f5]) (ok := fun _ => True) (okp := fun _ => False) ?hr (Reps.cons_ (show kq.M _ _ _ e [.int .i64 e.f0, .int .i64 e.f1, .int .i64 e.f2, .string e.f3, .slice A4 e.f4.length c4, .int .i64 e.f5] from kq_mk _ _ _ e _ _ _) rfl (Reps.none _ _)) (fun _ h => h.elim) trivial HBx8.out HBx8.out.size (by simp) ?_
                    (case hr => first | (go_simp; done) | (go_simp; rfl))
                    intro v13 x13 r_ b_ g_ n_
                    have HBx13 := Aside0.mk b_
                    have HRx13 := Aside0.mk r_
                    have HGx13 := Aside0.mk g_
                    have HNx13 := Aside0.mk n_
                    clear b_ r_ g_ n_
                    obtain ⟨Ao, co, eo_⟩ : ∃ A c, v13 = Value.slice A 1 c := Kd.R_slice HRx13.out
                    subst eo_
                    refine hK.out _ _ ⟨pw_cell_below (HBx13.out) (HHD.out.1), pw_cell_below (HBx13.out) (HHD.out.2.1), pw_cell_below (HBx13.out) (HHD.out.2.2.1), pw_cell_below (HBx13.out) (HHD.out.2.2.2.1), pw_cell_below (HBx13.out) (HHD.out.2.2.2.2.1), pw_cell_below (HBx13.out) (HHD.out.2.2.2.2.2.1), pw_cell_below (HBx13.out) (HHD.out.2.2.2.2.2.2)⟩ (fun hHeld => ?_)
                    clear hK K
                    refine norm_ (a' := ?_) ?_ ?_
                    rotate_left
                    · show Act.put _ (some 133) _ = _
                      simp only [Act.put, List.setIfInBounds_toArray, List.set_cons_zero, List.set_cons_succ, i64_w, i32_w]
                      rfl
                    exact norm_ (by simp only [putAll, Act.put, List.setIfInBounds_toArray, List.set_cons_zero, List.set_cons_succ]) (hCont (v1, v8, Value.slice Ao 1 co) _ ⟨HBx13.out, Kd.R_below HRx8.out (grown_below HGx13.out), HRx13.out, fun q hq he => by obtain ⟨b_, hb_, hl_⟩ := HNx13.out; have h1_ := (Kd.R_bound HRx8.out).1 q hq; have e0_ : some q = some b_ := he.trans hb_; injection e0_ with e_; have h2_ := h1_.2.2.1; omega⟩)
                  · skip
                    refine Kd.R_lit_step kq (w0 := wd) wd.heap.size 77 (by rfl) (N := 133) rfl (xs := [e]) (inner := [.int .i64 e.f0, .int .i64 e.f1, .int .i64 e.f2, .string e.f3, .slice A4 e.f4.length c4, .int .i64 e.f5]) (ok := fun _ => True) (okp := fun _ => False) ?hr (Reps.cons_ (show kq.M _ _ _ e [.int .i64 e.f0, .int .i64 e.f1, .int .i64 e.f2, .string e.f3, .slice A4 e.f4.length c4, .int .i64 e.f5] from kq_mk _ _ _ e _ _ _) rfl (Reps.none _ _)) (fun _ h => h.elim) trivial HBx1.out HBx1.out.size (by simp) ?_
                    (case hr => first | (go_simp; done) | (go_simp; rfl))
                    intro v13 x13 r_ b_ g_ n_
                    have HBx13 := Aside0.mk b_
                    have HRx13 := Aside0.mk r_
                    have HGx13 := Aside0.mk g_
                    have HNx13 := Aside0.mk n_
                    clear b_ r_ g_ n_
                    obtain ⟨Ao, co, eo_⟩ : ∃ A c, v13 = Value.slice A 1 c := Kd.R_slice HRx13.out
                    subst eo_
                    refine hK.out _ _ ⟨pw_cell_below (HBx13.out) (HHD.out.1), pw_cell_below (HBx13.out) (HHD.out.2.1), pw_cell_below (HBx13.out) (HHD.out.2.2.1), pw_cell_below (HBx13.out) (HHD.out.2.2.2.1), pw_cell_below (HBx13.out) (HHD.out.2.2.2.2.1), pw_cell_below (HBx13.out) (HHD.out.2.2.2.2.2.1), pw_cell_below (HBx13.out) (HHD.out.2.2.2.2.2.2)⟩ (fun hHeld => ?_)
                    clear hK K
                    refine norm_ (a' := ?_) ?_ ?_
                    rotate_left
                    · show Act.put _ (some 133) _ = _
                      simp only [Act.put, List.setIfInBounds_toArray, List.set_cons_zero, List.set_cons_succ, i64_w, i32_w]
                      rfl
                    refine one_ (i := 8) (N := some 128) #[true, true, true, true, true, true, true, true, true, true, true, true, true, true, false, false, false, false] rfl rfl (by kernel_rfl) (by decide) (fun K hK => ?_)
                    have hsz_ : wd.heap.size ≤ x13.heap.size := HBx13.out.size
                    refine Kd.R_append_rows_step kq (Rr := (kq).K x13) (w0 := wd) wd.heap.size (by rfl) (.tmp 121) (.tmp 127) 52 77 (.agg #[.int .i64 0, .int .i64 0, .int .i64 0, .string ⟨#[]⟩, .slice none 0 0, .int .i64 0]) 72 rfl Try.underlying52 info77f rfl (by decide) (by omega) v1 [] (ek_.take j) A2 j c2 (fun q => some q ≠ (Value.slice Ao 1 co).ownBlock) (fun _ => False) rfl rfl ?aO ?aC (fun _ _ h => kq_M h) (fun _ hk => hk.elim) ?aF HBx13.out hsz_ ?aL ?_
                    (case aO => exact (Kd.R_reok rfl (Kd.R_below HRx1.out (grown_below HGx13.out)) (fun q hq he => by obtain ⟨b_, hb_, hl_⟩ := HNx13.out; have h1_ := (Kd.R_bound HRx1.out).1 q hq; have e0_ : some q = some b_ := he.trans hb_; injection e0_ with e_; have h2_ := h1_.2.2.1; omega)))
                    (case aC => exact Kd.C_below HCE.out HBx13.out)
                    (case aF => exact (fun q hq he => by have h1_ := (Kd.R_bound (HRx13.out)).1 q he.symm; have h2_ := h1_.2.2.1; omega))
                    (case aL => have := HJ64.out; simp; omega)
                    intro v8 x8 r_ b_ g_ n_
                    have HBx8 := Aside0.mk b_
                    have HRx8 := Aside0.mk r_
                    have HGx8 := Aside0.mk g_
                    have HNx8 := Aside0.mk n_
                    clear b_ r_ g_ n_
                    clear hsz_
                    refine hK.out _ _ ⟨pw_cell_below (HBx8.out) (HHD.out.1), pw_cell_below (HBx8.out) (HHD.out.2.1), pw_cell_below (HBx8.out) (HHD.out.2.2.1), pw_cell_below (HBx8.out) (HHD.out.2.2.2.1), pw_cell_below (HBx8.out) (HHD.out.2.2.2.2.1), pw_cell_below (HBx8.out) (HHD.out.2.2.2.2.2.1), pw_cell_below (HBx8.out) (HHD.out.2.2.2.2.2.2)⟩ (fun hHeld => ?_)
                    clear hK K
                    refine norm_ (a' := ?_) ?_ ?_
                    rotate_left
                    · show Act.put _ (some 128) _ = _
                      simp only [Act.put, List.setIfInBounds_toArray, List.set_cons_zero, List.set_cons_succ, i64_w, i32_w]
                      rfl
                    exact norm_ (by simp only [putAll, Act.put, List.setIfInBounds_toArray, List.set_cons_zero, List.set_cons_succ]) (hCont (v1, v8, Value.slice Ao 1 co) _ ⟨HBx8.out, Kd.R_mono HRx8.out (fun _ _ => trivial), Kd.R_grown2 HRx13.out rfl HGx8.out (fun q hq he => by obtain ⟨b_, hb_, hl_⟩ := HNx13.out; have h1_ := (Kd.R_bound HRx1.out).1 q hq; have e0_ : some q = some b_ := he.trans hb_; injection e0_ with e_; have h2_ := h1_.2.2.1; omega), fun q hq he => HRx8.out.1 q hq he⟩)
                · skip
                  refine Kd.R_lit_step kq (w0 := wd) wd.heap.size 77 (by rfl) (N := 133) rfl (xs := [e]) (inner := [.int .i64 e.f0, .int .i64 e.f1, .int .i64 e.f2, .string e.f3, .slice A4 e.f4.length c4, .int .i64 e.f5]) (ok := fun _ => True) (okp := fun _ => False) ?hr (Reps.cons_ (show kq.M _ _ _ e [.int .i64 e.f0, .int .i64 e.f1, .int .i64 e.f2, .string e.f3, .slice A4 e.f4.length c4, .int .i64 e.f5] from kq_mk _ _ _ e _ _ _) rfl (Reps.none _ _)) (fun _ h => h.elim) trivial (Below.refl _ _) (Nat.le_refl _) (by simp) ?_
                  (case hr => first | (go_simp; done) | (go_simp; rfl))
                  intro v13 x13 r_ b_ g_ n_
                  have HBx13 := Aside0.mk b_
                  have HRx13 := Aside0.mk r_
                  have HGx13 := Aside0.mk g_
                  have HNx13 := Aside0.mk n_
                  clear b_ r_ g_ n_
                  obtain ⟨Ao, co, eo_⟩ : ∃ A c, v13 = Value.slice A 1 c := Kd.R_slice HRx13.out
                  subst eo_
                  refine hK.out _ _ ⟨pw_cell_below (HBx13.out) (HHD.out.1), pw_cell_below (HBx13.out) (HHD.out.2.1), pw_cell_below (HBx13.out) (HHD.out.2.2.1), pw_cell_below (HBx13.out) (HHD.out.2.2.2.1), pw_cell_below (HBx13.out) (HHD.out.2.2.2.2.1), pw_cell_below (HBx13.out) (HHD.out.2.2.2.2.2.1), pw_cell_below (HBx13.out) (HHD.out.2.2.2.2.2.2)⟩ (fun hHeld => ?_)
                  clear hK K
                  refine norm_ (a' := ?_) ?_ ?_
                  rotate_left
                  · show Act.put _ (some 133) _ = _
                    simp only [Act.put, List.setIfInBounds_toArray, List.set_cons_zero, List.set_cons_succ, i64_w, i32_w]
                    rfl
                  refine one_ (i := 1) (N := some 121) #[true, true, true, true, true, true, true, true, false, true, true, true, true, true, false, false, false, false] rfl rfl (by kernel_rfl) (by decide) (fun K hK => ?_)
                  refine Kd.R_lit_step kq (w0 := wd) wd.heap.size 77 (by rfl) (N := 121) rfl (xs := []) (inner := []) (ok := fun _ => True) (okp := fun _ => False) ?hr (Reps.none _ _) (fun _ h => h.elim) trivial HBx13.out HBx13.out.size (by simp) ?_
                  (case hr => first | (go_simp; done) | (go_simp; rfl))
                  intro v1 x1 r_ b_ g_ n_
                  have HBx1 := Aside0.mk b_
                  have HRx1 := Aside0.mk r_
                  have HGx1 := Aside0.mk g_
                  have HNx1 := Aside0.mk n_
                  clear b_ r_ g_ n_
                  refine hK.out _ _ ⟨pw_cell_below (HBx1.out) (HHD.out.1), pw_cell_below (HBx1.out) (HHD.out.2.1), pw_cell_below (HBx1.out) (HHD.out.2.2.1), pw_cell_below (HBx1.out) (HHD.out.2.2.2.1), pw_cell_below (HBx1.out) (HHD.out.2.2.2.2.1), pw_cell_below (HBx1.out) (HHD.out.2.2.2.2.2.1), pw_cell_below (HBx1.out) (HHD.out.2.2.2.2.2.2)⟩ (fun hHeld => ?_)
                  clear hK K
                  refine norm_ (a' := ?_) ?_ ?_
                  rotate_left
                  · show Act.put _ (some 121) _ = _
                    simp only [Act.put, List.setIfInBounds_toArray, List.set_cons_zero, List.set_cons_succ, i64_w, i32_w]
                    rfl
                  refine one_ (i := 8) (N := some 128) #[true, true, true, true, true, true, true, true, true, true, true, true, true, true, false, false, false, false] rfl rfl (by kernel_rfl) (by decide) (fun K hK => ?_)
                  have hsz_ : wd.heap.size ≤ x1.heap.size := HBx1.out.size
                  refine Kd.R_append_rows_step kq (Rr := (kq).K x1) (w0 := wd) wd.heap.size (by rfl) (.tmp 121) (.tmp 127) 52 77 (.agg #[.int .i64 0, .int .i64 0, .int .i64 0, .string ⟨#[]⟩, .slice none 0 0, .int .i64 0]) 72 rfl Try.underlying52 info77f rfl (by decide) (by omega) v1 [] (ek_.take j) A2 j c2 (fun q => some q ≠ (Value.slice Ao 1 co).ownBlock) (fun _ => False) rfl rfl ?aO ?aC (fun _ _ h => kq_M h) (fun _ hk => hk.elim) ?aF HBx1.out hsz_ ?aL ?_
                  (case aO => exact (Kd.R_reok rfl HRx1.out (fun q hq he => by obtain ⟨b_, hb_, hl_⟩ := HNx1.out; have h1_ := (Kd.R_bound HRx13.out).1 q he.symm; have e0_ : some b_ = some q := hb_.symm.trans hq; injection e0_ with e_; have h2_ := h1_.2.2.1; omega)))
                  (case aC => exact Kd.C_below HCE.out HBx1.out)
                  (case aF => exact (fun q hq he => by have h1_ := (Kd.R_bound (Kd.R_below HRx13.out (grown_below HGx1.out))).1 q he.symm; have h2_ := h1_.2.2.1; omega))
                  (case aL => have := HJ64.out; simp; omega)
                  intro v8 x8 r_ b_ g_ n_
                  have HBx8 := Aside0.mk b_
                  have HRx8 := Aside0.mk r_
                  have HGx8 := Aside0.mk g_
                  have HNx8 := Aside0.mk n_
                  clear b_ r_ g_ n_
                  clear hsz_
                  refine hK.out _ _ ⟨pw_cell_below (HBx8.out) (HHD.out.1), pw_cell_below (HBx8.out) (HHD.out.2.1), pw_cell_below (HBx8.out) (HHD.out.2.2.1), pw_cell_below (HBx8.out) (HHD.out.2.2.2.1), pw_cell_below (HBx8.out) (HHD.out.2.2.2.2.1), pw_cell_below (HBx8.out) (HHD.out.2.2.2.2.2.1), pw_cell_below (HBx8.out) (HHD.out.2.2.2.2.2.2)⟩ (fun hHeld => ?_)
                  clear hK K
                  refine norm_ (a' := ?_) ?_ ?_
                  rotate_left
                  · show Act.put _ (some 128) _ = _
                    simp only [Act.put, List.setIfInBounds_toArray, List.set_cons_zero, List.set_cons_succ, i64_w, i32_w]
                    rfl
                  exact norm_ (by simp only [putAll, Act.put, List.setIfInBounds_toArray, List.set_cons_zero, List.set_cons_succ]) (hCont (v1, v8, Value.slice Ao 1 co) _ ⟨HBx8.out, Kd.R_mono HRx8.out (fun _ _ => trivial), Kd.R_grown2 (Kd.R_below HRx13.out (grown_below HGx1.out)) rfl HGx8.out (fun q hq he => by obtain ⟨b_, hb_, hl_⟩ := HNx1.out; have h1_ := (Kd.R_bound HRx13.out).1 q he.symm; have e0_ : some b_ = some q := hb_.symm.trans hq; injection e0_ with e_; have h2_ := h1_.2.2.1; omega), fun q hq he => HRx8.out.1 q hq he⟩)
              rintro ⟨v1, v8, v13⟩ w4 ⟨hb4, hr8, hr13, hne4⟩
              obtain ⟨Ao, co, eo_⟩ : ∃ A c, v13 = Value.slice A 1 c := Kd.R_slice hr13
              subst eo_
              have HB4 := Aside0.mk hb4
              have HR8 := Aside0.mk hr8
              have HR13 := Aside0.mk hr13
              have HNE4 := Aside0.mk hne4
              clear hb4 hr8 hr13 hne4
              have hHeld : w4.cell? ⟨g, 2, none⟩ = some (Value.slice A2 ek_.length c2) ∧ w4.cell? (ad.add (k * 6)) = some (Value.int .i64 e.f0) ∧ w4.cell? ⟨(ad.add (k * 6)).block, (ad.add (k * 6)).off + 1, none⟩ = some (Value.int .i64 e.f1) ∧ w4.cell? ⟨(ad.add (k * 6)).block, (ad.add (k * 6)).off + 2, none⟩ = some (Value.int .i64 e.f2) ∧ w4.cell? ⟨(ad.add (k * 6)).block, (ad.add (k * 6)).off + 3, none⟩ = some (Value.string e.f3) ∧ w4.cell? ⟨(ad.add (k * 6)).block, (ad.add (k * 6)).off + 4, none⟩ = some (Value.slice A4 e.f4.length c4) ∧ w4.cell? ⟨(ad.add (k * 6)).block, (ad.add (k * 6)).off + 5, none⟩ = some (Value.int .i64 e.f5) := ⟨pw_cell_below (HB4.out) (HHD.out.1), pw_cell_below (HB4.out) (HHD.out.2.1), pw_cell_below (HB4.out) (HHD.out.2.2.1), pw_cell_below (HB4.out) (HHD.out.2.2.2.1), pw_cell_below (HB4.out) (HHD.out.2.2.2.2.1), pw_cell_below (HB4.out) (HHD.out.2.2.2.2.2.1), pw_cell_below (HB4.out) (HHD.out.2.2.2.2.2.2)⟩
              refine norm_ (a' := ?_) ?_ ?_
              rotate_left
              · simp only [putAll, Act.put, List.setIfInBounds_toArray, List.set_cons_zero, List.set_cons_succ]
                rfl
              refine last_ (i := 14) (N := some 134) #[true, true, true, true, true, true, true, true, true, true, true, true, true, true, true, false, false, false] rfl rfl (by kernel_rfl) (by decide) (fun K hK => ?_)
              have hsz_ : wd.heap.size ≤ w4.heap.size := HB4.out.size
              refine Kd.R_append_rows_step kq (Rr := (kq).K w4) (w0 := wd) wd.heap.size (by rfl) (.tmp 128) (.tmp 133) 52 77 (.agg #[.int .i64 0, .int .i64 0, .int .i64 0, .string ⟨#[]⟩, .slice none 0 0, .int .i64 0]) 72 rfl Try.underlying52 info77f rfl (by decide) (by omega) v8 (ek_.take j) [e] Ao 1 co (fun _ => True) (fun _ => False) rfl rfl ?aO ?aC (fun _ _ h => kq_M h) (fun _ hk => hk.elim) ?aF HB4.out hsz_ ?aL ?_
              (case aO => exact HR8.out)
              (case aC => exact (Kd.R_reads' HR13.out).2.2)
              (case aF => exact fun _ _ => trivial)
              (case aL => have := HJ64.out; have := HJT.out; simp only [List.length_take]; omega)
              intro v5 w5 r_ b_ g_ n_
              obtain ⟨Ae5, ce5, ev_⟩ : ∃ A c, v5 = Value.slice A (j + 1) c := by have h_ := Kd.R_slice r_; rw [HLE5.out] at h_; exact h_
              subst ev_
              have HB5 := Aside0.mk b_
              have HR5 := Aside0.mk r_
              clear b_ r_ g_ n_ hsz_
              refine hK.out _ _ ?_
              clear hK K
              refine norm_ (a' := ?_) ?_ ?_
              rotate_left
              · show Act.put _ (some 134) _ = _
                simp only [Act.put, List.setIfInBounds_toArray, List.set_cons_zero, List.set_cons_succ, i64_w, i32_w]
                rfl
              refine pure_ (i := 15) (N := some 135) (v := ?_) (a' := ?_) #[true, true, true, true, true, true, true, true, true, true, true, true, true, true, true, true, false, false] rfl rfl (by kernel_rfl) (fun _ _ _ h => h) (Or.inl ⟨by rfl, ?_⟩) ?_ ?_
              rotate_left
              · intro w'
                go_simp
                with_reducible rfl
              rotate_left
              · simp only [Act.put, List.setIfInBounds_toArray, List.set_cons_zero, List.set_cons_succ, i64_w, i32_w]
                rfl
              refine pure_ (i := 16) (N := some 136) (v := ?_) (a' := ?_) #[true, true, true, true, true, true, true, true, true, true, true, true, true, true, true, true, true, false] rfl rfl (by kernel_rfl) (fun _ _ _ h => h) (Or.inl ⟨by rfl, ?_⟩) ?_ ?_
              rotate_left
              · intro w'
                go_simp
                with_reducible rfl
              rotate_left
              · simp only [Act.put, List.setIfInBounds_toArray, List.set_cons_zero, List.set_cons_succ, i64_w, i32_w]
                rfl
              refine last_ (i := 17) (N := none) #[true, true, true, true, true, true, true, true, true, true, true, true, true, true, true, true, true, true] rfl rfl (by kernel_rfl) (by decide) (fun K hK => ?_)
              have hb5 := blk_below BG.out HB5.out
              have BG5 := Aside0.mk hb5
              have hs5 : w5.cell? ⟨g, 2, none⟩ = some (Value.slice A2 ek_.length c2) := (blk_cell hb5 2).trans rfl
              have hf5 := blk_frozen hb5 2
              clear hb5
              refine skip_ (w1 := ?_) (by rfl) rfl ?_ ?_
              rotate_left
              · go_simp
                rfl
              refine hK.out _ _ ?_
              clear hK K
              refine done_ (by kernel_rfl) ?_
              clear hHeld hs5 hf5
              have hwk := HWN.out
              go_wp2
              go_roundw
              case rel =>
                generalize hwf : World.setCell w5 ⟨g, 2, none⟩ _ = wf
                have hfr : ∀ q, q ≠ g → wf.heap[q]? = w5.heap[q]? := fun q hq => by rw [← hwf]; exact Below.heap_setCell w5 _ _ q hq
                have hbf : wf.heap[g]? = some (.cells #[.int .i64 b, .slice At5 (j + 1) ct5, .slice Ae5 (j + 1) ce5] 67 (0, 0)) := by rw [← hwf]; simpa using blk_set BG5.out 2 (.slice Ae5 (j + 1) ce5)
                have hszf : wf.heap.size = w5.heap.size := by rw [← hwf]; simp [World.setCell]
                have hgn : g < wn.heap.size := blk_lt BGr.out
                have hbe5 : Below we.heap.size we w5 := below_then HBD2.out HBD2.out.size HB5.out
                have hkf : Kept Fk we wf := by rw [← hwf]; exact (Kept.of_below hbe5).trans (fun q hq => .inl hq) (kept_set w5 _ _ HG0.out)
                have hwr : wr.heap.size ≤ wn.heap.size := HBN.out.size
                have hBr : B ≤ wr.heap.size := Nat.le_trans HBW.out HKR.out.size
                have hwd : wd.heap.size = we.heap.size := HSZ2.out
                have hne : wn.heap.size ≤ we.heap.size := HSE.out
                have hRT := Kd.R_bound (Kd.R_step (w1 := wf) (Kd.R_below HRTe.out hbe5) (fun q hq _ => hfr q (by omega)))
                have hRE := Kd.R_bound (Kd.R_lower (Kd.R_step (w1 := wf) (Kd.R_mono (Kd.R_bound HR5.out) (ok' := fun q => wn.heap.size ≤ q) (fun q hq => by have := hq.2.1; omega)) (fun q hq _ => hfr q (by omega))) (show B ≤ wd.heap.size by omega))
                refine ⟨k + 1, fun q => (Fk q ∨ wr.heap.size ≤ q) ∧ q < wf.heap.size, tk_.take j ++ [tv], ek_.take j ++ [e], by first | rfl | (rw [hwk]; rfl), hlk, ⟨?_⟩, ⟨fun q hq => ?_⟩, ⟨?_⟩, ⟨?_⟩⟩
                · refine ⟨At5, ct5, Ae5, ce5, ?_, ⟨.inl HG0.out, blk_lt hbf⟩, fun q hq => hq.1.elim (HFB.out q) (fun h => Nat.le_trans hBr h), fun q hq => hq.2, ?_, ?_, ?_, hb00, ?_⟩
                  · rw [HLT5.out, HLE5.out]; exact hbf
                  · rw [HLT5.out]; exact Kd.R_mono hRT (fun q hq => ⟨⟨.inr (by have := hq.1; omega), hq.2.2.1⟩, by have := hq.1; omega⟩)
                  · rw [HLE5.out]; exact Kd.R_mono hRE (fun q hq => ⟨⟨.inr (by have := hq.1; omega), hq.2.2.1⟩, by have := hq.1; omega⟩)
                  · rw [HLT5.out, HLE5.out]
                  · rw [HLE5.out]; exact HJ64.out.1
                · have h1 := HKR.out.size
                  rcases hq.1 with h | h
                  · exact HF.out q h
                  · exact .inr (Nat.le_trans h1 h)
                · exact HKR.out.trans HF.out ((((Kept.of_below HBN.out).trans (fun q hq => .inl hq) HKN.out)).trans (fun q hq => .inl hq) hkf)
                · rw [HLE5.out]
                  have h1 := HJX.out
                  omega
              case measure => exact meas_step hlk (by first | rfl | exact hwk)

          · have q1 := eq_false (show ¬ (k : Int) < (el.length : Int) by omega)
            have hwx : wrap64 (x + (el.length : Int)) = x + (el.length : Int) := by have := HC6.out; unfold wrap64; omega
            go_wp2
            go_ret2
            exact YPost.mk Fk _ _ tk_ ek_ HI.out HF.out HKR.out

end Go.Proofs.Ytbomomaidglegaa.Hist
