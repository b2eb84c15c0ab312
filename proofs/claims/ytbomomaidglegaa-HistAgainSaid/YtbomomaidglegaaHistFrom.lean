/- hist.Hist.From, by hand. -/
import Derived.Test.YtbomomaidglegaaHistTerms
import Derived.Deep.LoopGhost
import Derived.WalkSpells
namespace Go.Proofs.Ytbomomaidglegaa.Hist
open Go Go.RowKit Go.Proofs.Ytbomomaidglegaa.XHist Go.Proofs.YtbomomaidglegaaW.PrintWords Go.Proofs.YtbomomaidglegaaW.PrintLast Go.Proofs.YtbomomaidglegaaW.PrintMore
set_option linter.unusedVariables false
set_option linter.unusedSimpArgs false

attribute [local go_sem] max2_int min2_int max_two min_two
theorem info77f : (Try.prog.info? 77).map (fun i => (i.zero, i.size, i.bytes)) = some (some (.agg #[.int .i64 0, .int .i64 0, .int .i64 0, .string ⟨#[]⟩, .slice none 0 0, .int .i64 0]), 6, 72) := by kernel_rfl
theorem tight_int {k : IntKind} {e B : Nat} {ok : Nat → Prop} {w : World} {v : Value} {xs : List Int} (h : (Kd.int k).R e w B ok v xs) : (Kd.int k).R e w B (fun q => some q = v.ownBlock) v xs := ⟨fun q hq => hq.symm, h.2.imp_ (fun _ _ hp => hp)⟩

theorem cut_at {P : Program} (t e : TypeId) {z : Option Value} {y : Nat} (ht : P.underlying t = some (.slice e)) (hinfo : (P.info? e).map (fun i => (i.zero, i.size, i.bytes)) = some (z, 7, y)) (A : Option Addr) (n c j : Nat) (hm : j ≤ n) :
    ∀ W : World, (Instr.slice t (.slice A n c) (some (.int .i64 (j : Int))) none none).run P W = .ok (.slice (if c = j then A else A.map (·.add (j * 7))) (n - j) (c - j)) W := by
  obtain ⟨i, hi, hz⟩ := Option.map_eq_some_iff.1 hinfo
  simp only [Prod.mk.injEq] at hz
  have := cut_from (P := P) t e .i64 ht hi 7 hz.2.1 A n c (j : Int) (by omega) (by omega)
  simpa using this

/-- Where From begins. -/
def fromIx (b : Int) (l : List S105) (i : Int) : Nat := if b < i then min (i - b - 1).toNat l.length else 0

set_option maxHeartbeats 8000000 in
set_option maxRecDepth 100000 in
theorem from_calls {B : Nat} {W : World} {g : Nat} {F : Nat → Prop} {b : Int} {l : List S105} (h : IsH B W g F b l) (hm : ∀ x ∈ l, x.f1.f4.length < 17592186044416) (i : Int) (hi0 : -1000 ≤ i) (hi1 : i ≤ 1000) :
    Calls Try.prog 42 #[.pointer (some ⟨g, 0, none⟩), .int .i64 i] W fun e w' => ∃ (A1 : Option Addr) (c1 : Nat) (A2 : Option Addr) (c2 : Nat) (ts : List Int) (es : List S77), e = .returned (.tuple #[.slice A1 ts.length c1, .slice A2 es.length c2]) ∧
      Kd.R (Kd.int .i64) 3 w' W.heap.size (fun _ => True) (.slice A1 ts.length c1) ts ∧ Kd.R k77 77 w' W.heap.size (fun _ => True) (.slice A2 es.length c2) es ∧ Below W.heap.size W w' ∧
      ts = (l.drop (fromIx b l i)).map (·.f0) ∧ es = (l.drop (fromIx b l i)).map (·.f1) := by
  obtain ⟨A, c, hb, hc, hC, h0, h1⟩ := h.reads
  have hc0 : W.cell? ⟨g, 0, none⟩ = some (.int .i64 b) := (blk_cell hb 0).trans rfl
  have hc1 : W.cell? ⟨g, 1, none⟩ = some (.slice A l.length c) := (blk_cell hb 1).trans rfl
  have hu105 := Try.underlying105
  have hu77 := Try.underlying77
  obtain ⟨j, hj⟩ : ∃ j, fromIx b l i = j := ⟨_, rfl⟩
  rw [hj]
  have hjl : j ≤ l.length := by rw [← hj]; unfold fromIx; split <;> omega
  have HD := Aside0.mk (Kd.C_drop hC hjl hc)
  have hcut := cut_at 101 105 Try.underlying101 info105 A l.length c j hjl
  obtain ⟨A1, hA1⟩ : ∃ A1, (if c = j then A else A.map (·.add (j * 7))) = A1 := ⟨_, rfl⟩
  rw [hA1] at hcut
  have HD1 : Aside0 (Kd.C k105 W A1 (l.drop j).length (l.drop j)) := ⟨by rw [← hA1]; exact HD.out⟩
  obtain ⟨L, hL⟩ : ∃ L, l.drop j = L := ⟨_, rfl⟩
  have hLl : L.length = l.length - j := by rw [← hL, List.length_drop]
  have HML := Aside0.mk (show ∀ x ∈ L, x.f1.f4.length < 17592186044416 from fun x hx => hm x (by rw [← hL] at hx; exact List.mem_of_mem_drop hx))
  rw [hL] at HD1 ⊢
  rw [← hLl] at hcut
  clear hL HD hA1 hm hC hc hb h hjl
  have HHL := Aside0.mk hLl
  by_cases cb : b < i
  · have d1 : decide (b < i) = true := decide_eq_true cb
    by_cases cl : i - b - 1 ≤ (l.length : Int)
    · have hij : i - b - 1 = (j : Int) := by rw [← hj]; unfold fromIx; rw [if_pos cb]; omega
      have hlt1 : ((l.length : Int) < (j : Int)) = False := eq_false (by omega)
      have hlt2 : (l.length < j) = False := eq_false (by omega)
      have hwj : wrap64 (wrap64 (i - b) - 1) = (j : Int) := by unfold wrap64; omega
      have hwk : IntKind.i64.wrap (wrap64 (i - b) - 1) = (j : Int) := by rw [i64_w]; exact hwj
      clear hj cl hLl
      go_enter Try.func42, Try.ntmps42
      go_wp2
      refine start_ (n := 14) (S := fun w' => w'.cell? ⟨g, 0, none⟩ = some (Value.int .i64 b) ∧ w'.cell? ⟨g, 1, none⟩ = some (Value.slice A l.length c)) (ds := []) #[false, false, false, false, false, false, false, false, false, false, false, false, false, false] (by kernel_rfl) rfl rfl ⟨hc0, hc1⟩ (fun hHeld => ?_)
      refine pure_ (i := 0) (N := some 17) (v := ?_) (a' := ?_) #[true, false, false, false, false, false, false, false, false, false, false, false, false, false] rfl rfl (by kernel_rfl) (fun _ _ _ h => h) (Or.inl ⟨by rfl, ?_⟩) ?_ ?_
      rotate_left
      · intro w'
        go_simp
        with_reducible rfl
      rotate_left
      · simp only [Act.put, List.setIfInBounds_toArray, List.set_cons_zero, List.set_cons_succ, i64_w, i32_w]
        rfl
      refine pure_ (i := 1) (N := some 18) (v := ?_) (a' := ?_) #[true, true, false, false, false, false, false, false, false, false, false, false, false, false] rfl rfl (by kernel_rfl) (fun _ _ _ h => h) (Or.inl ⟨by rfl, ?_⟩) ?_ ?_
      rotate_left
      · intro w'
        go_simp
        with_reducible rfl
      rotate_left
      · simp only [Act.put, List.setIfInBounds_toArray, List.set_cons_zero, List.set_cons_succ, i64_w, i32_w]
        rfl
      refine pure_ (i := 2) (N := some 19) (v := ?_) (a' := ?_) #[true, true, true, false, false, false, false, false, false, false, false, false, false, false] rfl rfl (by kernel_rfl) (fun _ _ _ h => h) (Or.inl ⟨by rfl, ?_⟩) ?_ ?_
      rotate_left
      · intro w'
        go_simp
        with_reducible rfl
      rotate_left
      · simp only [Act.put, List.setIfInBounds_toArray, List.set_cons_zero, List.set_cons_succ, i64_w, i32_w]
        rfl
      refine pure_ (i := 3) (N := some 20) (v := ?_) (a' := ?_) #[true, true, true, true, false, false, false, false, false, false, false, false, false, false] rfl rfl (by kernel_rfl) (fun _ _ _ h => h) (Or.inl ⟨by rfl, ?_⟩) ?_ ?_
      rotate_left
      · intro w'
        go_simp
        with_reducible rfl
      rotate_left
      · simp only [Act.put, List.setIfInBounds_toArray, List.set_cons_zero, List.set_cons_succ, i64_w, i32_w]
        rfl
      refine pure_ (i := 7) (N := some 24) (v := ?_) (a' := ?_) #[true, true, true, true, false, false, false, true, false, false, false, false, false, false] rfl rfl (by kernel_rfl) (fun _ _ _ h => h) (Or.inl ⟨by rfl, ?_⟩) ?_ ?_
      rotate_left
      · intro w'
        go_simp
        with_reducible rfl
      rotate_left
      · simp only [Act.put, List.setIfInBounds_toArray, List.set_cons_zero, List.set_cons_succ, i64_w, i32_w]
        rfl
      refine pure_ (i := 8) (N := some 25) (v := ?_) (a' := ?_) #[true, true, true, true, false, false, false, true, true, false, false, false, false, false] rfl rfl (by kernel_rfl) (fun _ _ _ h => h) (Or.inl ⟨by rfl, ?_⟩) ?_ ?_
      rotate_left
      · intro w'
        go_simp
        with_reducible rfl
      rotate_left
      · simp only [Act.put, List.setIfInBounds_toArray, List.set_cons_zero, List.set_cons_succ, i64_w, i32_w]
        rfl
      refine pure_ (i := 9) (N := some 26) (v := ?_) (a' := ?_) #[true, true, true, true, false, false, false, true, true, true, false, false, false, false] rfl rfl (by kernel_rfl) (fun _ _ _ h => h) (Or.inl ⟨by rfl, ?_⟩) ?_ ?_
      rotate_left
      · intro w'
        go_simp
        with_reducible rfl
      rotate_left
      · simp only [Act.put, List.setIfInBounds_toArray, List.set_cons_zero, List.set_cons_succ, i64_w, i32_w]
        rfl
      refine take_ (i := 4) (N := some 21) (v := ?_) (a' := ?_) #[true, true, true, true, true, false, false, true, true, true, false, false, false, false] rfl rfl (by kernel_rfl) (fun _ _ _ h => h) (Or.inl ⟨by rfl, ?_⟩) hHeld ?_ ?_
      rotate_left
      · rintro w' ⟨s0, s1⟩
        go_simp
        with_reducible rfl
      rotate_left
      · simp only [Act.put, List.setIfInBounds_toArray, List.set_cons_zero, List.set_cons_succ, i64_w, i32_w]
        rfl
      refine pure_ (i := 5) (N := some 22) (v := ?_) (a' := ?_) #[true, true, true, true, true, true, false, true, true, true, false, false, false, false] rfl rfl (by kernel_rfl) (fun _ _ _ h => h) (Or.inl ⟨by rfl, ?_⟩) ?_ ?_
      rotate_left
      · intro w'
        go_simp
        with_reducible rfl
      rotate_left
      · simp only [Act.put, List.setIfInBounds_toArray, List.set_cons_zero, List.set_cons_succ, i64_w, i32_w]
        rfl
      refine pure_ (i := 6) (N := some 23) (v := ?_) (a' := ?_) #[true, true, true, true, true, true, true, true, true, true, false, false, false, false] rfl rfl (by kernel_rfl) (fun _ _ _ h => h) (Or.inl ⟨by rfl, ?_⟩) ?_ ?_
      rotate_left
      · intro w'
        go_simp
        with_reducible rfl
      rotate_left
      · simp only [Act.put, List.setIfInBounds_toArray, List.set_cons_zero, List.set_cons_succ, i64_w, i32_w]
        rfl
      refine take_ (i := 10) (N := some 27) (v := ?_) (a' := ?_) #[true, true, true, true, true, true, true, true, true, true, true, false, false, false] rfl rfl (by kernel_rfl) (fun _ _ _ h => h) (Or.inl ⟨by rfl, ?_⟩) hHeld ?_ ?_
      rotate_left
      · rintro w' ⟨s0, s1⟩
        go_simp
        with_reducible rfl
      rotate_left
      · simp only [Act.put, List.setIfInBounds_toArray, List.set_cons_zero, List.set_cons_succ, i64_w, i32_w]
        rfl
      refine pure_ (i := 11) (N := some 28) (v := ?_) (a' := ?_) #[true, true, true, true, true, true, true, true, true, true, true, true, false, false] rfl rfl (by kernel_rfl) (fun _ _ _ h => h) (Or.inl ⟨by rfl, ?_⟩) ?_ ?_
      rotate_left
      · intro w'
        go_simp
        with_reducible rfl
      rotate_left
      · simp only [Act.put, List.setIfInBounds_toArray, List.set_cons_zero, List.set_cons_succ, i64_w, i32_w]
        rfl
      refine pure_ (i := 12) (N := some 29) (v := ?_) (a' := ?_) #[true, true, true, true, true, true, true, true, true, true, true, true, true, false] rfl rfl (by kernel_rfl) (fun _ _ _ h => h) (Or.inl ⟨by rfl, ?_⟩) ?_ ?_
      rotate_left
      · intro w'
        go_simp
        with_reducible rfl
      rotate_left
      · simp only [Act.put, List.setIfInBounds_toArray, List.set_cons_zero, List.set_cons_succ, i64_w, i32_w]
        rfl
      refine pure_ (i := 13) (N := some 8) (v := ?_) (a' := ?_) #[true, true, true, true, true, true, true, true, true, true, true, true, true, true] rfl rfl (by kernel_rfl) (fun _ _ _ h => h) (Or.inl ⟨by rfl, ?_⟩) ?_ ?_
      rotate_left
      · intro w'
        go_simp
        with_reducible rfl
      rotate_left
      · simp only [Act.put, List.setIfInBounds_toArray, List.set_cons_zero, List.set_cons_succ, i64_w, i32_w]
        rfl
      refine done_ (by kernel_rfl) ?_
      go_wp2
      go_loopw [6, 7, 37] (fun v6 v7 v37 wr => ∃ (k : Nat) (ts : List Int) (es : List S77) (u6 u7 : Value), u6 = v6 ∧ u7 = v7 ∧ v37 = .int .i64 (k : Int) ∧ k ≤ L.length ∧ ts = (L.take k).map (·.f0) ∧ es = (L.take k).map (·.f1) ∧ Aside0 (Kd.R (Kd.int .i64) 3 wr W.heap.size (fun _ => True) u6 ts) ∧ Aside0 (Kd.R k77 77 wr W.heap.size (fun q => True ∧ some q ≠ u6.ownBlock) u7 es) ∧ Aside0 (Below W.heap.size W wr))
        (fun _ _ v37 _ => L.length - (intOf v37).toNat)
      case atStart => exact ⟨0, [], [], _, _, rfl, rfl, rfl, by omega, rfl, rfl, ⟨Kd.R_nil _ _ _ _ _⟩, ⟨Kd.R_nil _ _ _ _ _⟩, ⟨by repeat (first | exact Below.refl _ _ | apply below_drew)⟩⟩
      case round =>
        obtain ⟨k, ts, es, v6, v7, rfl, rfl, rfl, hk, hts, hes, H6, H7, HBr⟩ := hrel
        have HTS := Aside0.mk hts
        have HES := Aside0.mk hes
        by_cases hlt : k < L.length
        · have p1 : 0 ≤ (k : Int) := by omega
          have q1 : (k : Int) < (L.length : Int) := by omega
          obtain ⟨ad, A5, c5, rfl, hy, hy0, hy1, hy2, hy3, hy4, hy5, hyc, hyC⟩ := at_T105 HD1.out (k : Int) p1 q1
          rw [Int.toNat_natCast] at hy hy0 hy1 hy2 hy3 hy4 hy5
          have hym := HML.out (L[k]) (List.getElem_mem hlt)
          rw [← rd105_at L k hlt] at hym
          obtain ⟨y, hyk⟩ : ∃ y, rd_T105 L (k : Int) = y := ⟨_, rfl⟩
          have HYE := Aside0.mk (show y = L[k] by rw [← hyk, rd105_at L k hlt])
          rw [hyk] at hy hy0 hy1 hy2 hy3 hy4 hy5 hyc hyC hym
          have HY5 := Aside0.mk hyC
          have HYC := Aside0.mk hyc
          have HYM := Aside0.mk hym
          have hq := pw_cell_below HBr.out hy
          have hq0 := pw_cell_below HBr.out hy0
          have hq1 := pw_cell_below HBr.out hy1
          have hq2 := pw_cell_below HBr.out hy2
          have hq3 := pw_cell_below HBr.out hy3
          have hq4 := pw_cell_below HBr.out hy4
          have hq5 := pw_cell_below HBr.out hy5
          have hlk : L.length ≤ 64 := by have := HHL.out; omega
          have HTL := Aside0.mk (show ts.length ≤ 64 by rw [hts, List.length_map, List.length_take]; omega)
          have HEL := Aside0.mk (show es.length ≤ 64 by rw [hes, List.length_map, List.length_take]; omega)
          replace p1 := eq_true p1
          replace q1 := eq_true q1
          clear hts hes hyk hyC hyc hym hy hy0 hy1 hy2 hy3 hy4 hy5
          go_wp2_with (first
            | ((with_reducible refine gate_builtin (b := .append) (xs := #[.tmp 41, .tmp 44]) rfl ?_); (try (refine gate_guard (by rfl) ?_; dsimp only)); at_builtin; refine Kd.R_append (Kd.int .i64) (w0 := W) W.heap.size rfl (.tmp 41) (.tmp 44) 24 3 (.int .i64 0) 8 rfl Try.underlying24 info3 rfl (by decide) (by decide) v6 ts y.f0 [.int .i64 y.f0] (fun _ => True) (fun _ => False) rfl ?aX ?aP (fun _ hk => hk.elim) ?aF ?aO ?aB ?aS ?aL ?_; (case aX => (show Value.slice (some ⟨wr.heap.size + 1, 0, none⟩) 1 1 = Value.slice (some ⟨(wr.alloc (.cells #[.int .i64 y.f0, .int .i64 y.f1.f0, .int .i64 y.f1.f1, .int .i64 y.f1.f2, .string y.f1.f3, .slice A5 y.f1.f4.length c5, .int .i64 y.f1.f5] 105)).heap.size, 0, none⟩) 1 1; rw [World.size_alloc])); (case aP => rfl); (case aF => exact fun _ _ => trivial); (case aO => exact Kd.R_alloc H6.out _); (case aB => exact below_alloc HBr.out _); (case aS => have := HBr.out.size; simp; omega); (case aL => have := HTL.out; omega); intro v1 w2 ho_ hb_ hg_ hat_; have H6b := Aside0.mk ho_; have HB2 := Aside0.mk hb_; have H7b := Aside0.mk (Kd.R_after (Kd.R_alloc H7.out _) hg_ hat_); have hbx_ := blk_grown (heap_alloc_new wr (.cells #[.int .i64 y.f0, .int .i64 y.f1.f0, .int .i64 y.f1.f1, .int .i64 y.f1.f2, .string y.f1.f3, .slice A5 y.f1.f4.length c5, .int .i64 y.f1.f5] 105)) hg_ (fun he => by have := own_in H6.out _ he.symm; omega); have HV1 := Aside0.mk (own_in ho_); have hz1 := (blk_cell hbx_ 1).trans rfl; have hz2 := (blk_cell hbx_ 2).trans rfl; have hz3 := (blk_cell hbx_ 3).trans rfl; have hz4 := (blk_cell hbx_ 4).trans rfl; have hz5 := (blk_cell hbx_ 5).trans rfl; have hz6 := (blk_cell hbx_ 6).trans rfl; have HCy := Aside0.mk (Kd.C_below HY5.out hb_); clear ho_ hb_ hg_ hat_ hbx_)
            | (go_at_call 65; refine (twin_calls y.f1 A5 c5 _ HCy.out HYC.out HYM.out).mono ?_; rintro e_ w3 ⟨v4, rfl, hr3_, hb3_⟩; have HR3 := Aside0.mk hr3_; have HB3 := Aside0.mk hb3_; clear hr3_ hb3_)
            | ((with_reducible refine gate_builtin (b := .append) (xs := #[.tmp 46, .tmp 50]) rfl ?_); (try (refine gate_guard (by rfl) ?_; dsimp only)); at_builtin; refine Kd.R_append k77 (w0 := W) W.heap.size rfl (.tmp 46) (.tmp 50) 52 77 (.agg #[.int .i64 0, .int .i64 0, .int .i64 0, .string ⟨#[]⟩, .slice none 0 0, .int .i64 0]) 72 rfl Try.underlying52 info77f rfl (by decide) (by decide) v7 es y.f1 [.int .i64 y.f1.f0, .int .i64 y.f1.f1, .int .i64 y.f1.f2, .string y.f1.f3, v4, .int .i64 y.f1.f5] (fun q => True ∧ some q ≠ v1.ownBlock) (fun q => w2.heap.size ≤ q) rfl rfl ?aP ?aK ?aF ?aO ?aB ?aS ?aL ?_; (case aP => exact k77_mkM _ _ _ y.f1 (Kd.R_lower (Kd.R_mono (Kd.R_bound HR3.out) (fun q hq => hq.2.1)) HB2.out.size)); (case aK => intro q hq; exact ⟨⟨trivial, fun he => by have := HV1.out q he.symm; omega⟩, fun he => by have := own_in H7b.out q he.symm; omega⟩); (case aF => intro q hq; exact ⟨trivial, fun he => by have := HV1.out q he.symm; have := HB3.out.size; omega⟩); (case aO => exact Kd.R_below H7b.out HB3.out); (case aB => exact below_then HB2.out HB2.out.size HB3.out); (case aS => exact Nat.le_trans HB2.out.size HB3.out.size); (case aL => have := HTL.out; have := HEL.out; omega); intro v2 w5 ho_ hb_ hg_ hat_; have H7c := Aside0.mk ho_; have HB5 := Aside0.mk hb_; have H6c := Aside0.mk (Kd.R_mono (Kd.R_grown (tight_int (Kd.R_below H6b.out HB3.out)) hg_ (fun q hq he => (H7b.out.1 q he.symm).2 hq)) (fun q _ => trivial)); clear ho_ hb_ hg_ hat_)
            | go_in)
          go_roundw
          case rel =>
            have hn : L.take (k + 1) = L.take k ++ [y] := by rw [List.take_succ_eq_append_getElem hlt, HYE.out]
            refine ⟨k + 1, ts ++ [y.f0], es ++ [y.f1], _, _, rfl, rfl, rfl, hlt, ?_, ?_, H6c, H7c, HB5⟩
            · rw [hn, List.map_append, HTS.out]; rfl
            · rw [hn, List.map_append, HES.out]; rfl
          case measure =>
            simp only [intOf, Int.toNat_natCast]
            omega
        · have hkl : k = L.length := by omega
          subst hkl
          have hq := eq_false (show ¬ ((L.length : Int) < (L.length : Int)) by omega)
          obtain ⟨Aa, ca, rfl⟩ := Kd.R_slice H6.out
          obtain ⟨Ab, cb_, rfl⟩ := Kd.R_slice H7.out
          clear hts hes hlt hk
          go_wp2
          go_ret2
          refine ⟨Aa, ca, Ab, cb_, ts, es, rfl, H6.out, Kd.R_mono H7.out (fun _ _ => trivial), HBr.out, ?_, ?_⟩
          · rw [HTS.out, List.take_length]
          · rw [HES.out, List.take_length]
    · have hjl2 : j = l.length := by rw [← hj]; unfold fromIx; rw [if_pos cb]; omega
      subst hjl2
      have hlt1 : ((l.length : Int) < i - b - 1) = True := eq_true (by omega)
      have hwj : wrap64 (wrap64 (i - b) - 1) = i - b - 1 := by unfold wrap64; omega
      have hwk : IntKind.i64.wrap (wrap64 (i - b) - 1) = i - b - 1 := by rw [i64_w]; exact hwj
      clear hj cl hLl
      go_enter Try.func42, Try.ntmps42
      go_wp2
      refine start_ (n := 14) (S := fun w' => w'.cell? ⟨g, 0, none⟩ = some (Value.int .i64 b) ∧ w'.cell? ⟨g, 1, none⟩ = some (Value.slice A l.length c)) (ds := []) #[false, false, false, false, false, false, false, false, false, false, false, false, false, false] (by kernel_rfl) rfl rfl ⟨hc0, hc1⟩ (fun hHeld => ?_)
      refine pure_ (i := 0) (N := some 17) (v := ?_) (a' := ?_) #[true, false, false, false, false, false, false, false, false, false, false, false, false, false] rfl rfl (by kernel_rfl) (fun _ _ _ h => h) (Or.inl ⟨by rfl, ?_⟩) ?_ ?_
      rotate_left
      · intro w'
        go_simp
        with_reducible rfl
      rotate_left
      · simp only [Act.put, List.setIfInBounds_toArray, List.set_cons_zero, List.set_cons_succ, i64_w, i32_w]
        rfl
      refine pure_ (i := 1) (N := some 18) (v := ?_) (a' := ?_) #[true, true, false, false, false, false, false, false, false, false, false, false, false, false] rfl rfl (by kernel_rfl) (fun _ _ _ h => h) (Or.inl ⟨by rfl, ?_⟩) ?_ ?_
      rotate_left
      · intro w'
        go_simp
        with_reducible rfl
      rotate_left
      · simp only [Act.put, List.setIfInBounds_toArray, List.set_cons_zero, List.set_cons_succ, i64_w, i32_w]
        rfl
      refine pure_ (i := 2) (N := some 19) (v := ?_) (a' := ?_) #[true, true, true, false, false, false, false, false, false, false, false, false, false, false] rfl rfl (by kernel_rfl) (fun _ _ _ h => h) (Or.inl ⟨by rfl, ?_⟩) ?_ ?_
      rotate_left
      · intro w'
        go_simp
        with_reducible rfl
      rotate_left
      · simp only [Act.put, List.setIfInBounds_toArray, List.set_cons_zero, List.set_cons_succ, i64_w, i32_w]
        rfl
      refine pure_ (i := 3) (N := some 20) (v := ?_) (a' := ?_) #[true, true, true, true, false, false, false, false, false, false, false, false, false, false] rfl rfl (by kernel_rfl) (fun _ _ _ h => h) (Or.inl ⟨by rfl, ?_⟩) ?_ ?_
      rotate_left
      · intro w'
        go_simp
        with_reducible rfl
      rotate_left
      · simp only [Act.put, List.setIfInBounds_toArray, List.set_cons_zero, List.set_cons_succ, i64_w, i32_w]
        rfl
      refine pure_ (i := 7) (N := some 24) (v := ?_) (a' := ?_) #[true, true, true, true, false, false, false, true, false, false, false, false, false, false] rfl rfl (by kernel_rfl) (fun _ _ _ h => h) (Or.inl ⟨by rfl, ?_⟩) ?_ ?_
      rotate_left
      · intro w'
        go_simp
        with_reducible rfl
      rotate_left
      · simp only [Act.put, List.setIfInBounds_toArray, List.set_cons_zero, List.set_cons_succ, i64_w, i32_w]
        rfl
      refine pure_ (i := 8) (N := some 25) (v := ?_) (a' := ?_) #[true, true, true, true, false, false, false, true, true, false, false, false, false, false] rfl rfl (by kernel_rfl) (fun _ _ _ h => h) (Or.inl ⟨by rfl, ?_⟩) ?_ ?_
      rotate_left
      · intro w'
        go_simp
        with_reducible rfl
      rotate_left
      · simp only [Act.put, List.setIfInBounds_toArray, List.set_cons_zero, List.set_cons_succ, i64_w, i32_w]
        rfl
      refine pure_ (i := 9) (N := some 26) (v := ?_) (a' := ?_) #[true, true, true, true, false, false, false, true, true, true, false, false, false, false] rfl rfl (by kernel_rfl) (fun _ _ _ h => h) (Or.inl ⟨by rfl, ?_⟩) ?_ ?_
      rotate_left
      · intro w'
        go_simp
        with_reducible rfl
      rotate_left
      · simp only [Act.put, List.setIfInBounds_toArray, List.set_cons_zero, List.set_cons_succ, i64_w, i32_w]
        rfl
      refine take_ (i := 4) (N := some 21) (v := ?_) (a' := ?_) #[true, true, true, true, true, false, false, true, true, true, false, false, false, false] rfl rfl (by kernel_rfl) (fun _ _ _ h => h) (Or.inl ⟨by rfl, ?_⟩) hHeld ?_ ?_
      rotate_left
      · rintro w' ⟨s0, s1⟩
        go_simp
        with_reducible rfl
      rotate_left
      · simp only [Act.put, List.setIfInBounds_toArray, List.set_cons_zero, List.set_cons_succ, i64_w, i32_w]
        rfl
      refine pure_ (i := 5) (N := some 22) (v := ?_) (a' := ?_) #[true, true, true, true, true, true, false, true, true, true, false, false, false, false] rfl rfl (by kernel_rfl) (fun _ _ _ h => h) (Or.inl ⟨by rfl, ?_⟩) ?_ ?_
      rotate_left
      · intro w'
        go_simp
        with_reducible rfl
      rotate_left
      · simp only [Act.put, List.setIfInBounds_toArray, List.set_cons_zero, List.set_cons_succ, i64_w, i32_w]
        rfl
      refine pure_ (i := 6) (N := some 23) (v := ?_) (a' := ?_) #[true, true, true, true, true, true, true, true, true, true, false, false, false, false] rfl rfl (by kernel_rfl) (fun _ _ _ h => h) (Or.inl ⟨by rfl, ?_⟩) ?_ ?_
      rotate_left
      · intro w'
        go_simp
        with_reducible rfl
      rotate_left
      · simp only [Act.put, List.setIfInBounds_toArray, List.set_cons_zero, List.set_cons_succ, i64_w, i32_w]
        rfl
      refine take_ (i := 10) (N := some 27) (v := ?_) (a' := ?_) #[true, true, true, true, true, true, true, true, true, true, true, false, false, false] rfl rfl (by kernel_rfl) (fun _ _ _ h => h) (Or.inl ⟨by rfl, ?_⟩) hHeld ?_ ?_
      rotate_left
      · rintro w' ⟨s0, s1⟩
        go_simp
        with_reducible rfl
      rotate_left
      · simp only [Act.put, List.setIfInBounds_toArray, List.set_cons_zero, List.set_cons_succ, i64_w, i32_w]
        rfl
      refine pure_ (i := 11) (N := some 28) (v := ?_) (a' := ?_) #[true, true, true, true, true, true, true, true, true, true, true, true, false, false] rfl rfl (by kernel_rfl) (fun _ _ _ h => h) (Or.inl ⟨by rfl, ?_⟩) ?_ ?_
      rotate_left
      · intro w'
        go_simp
        with_reducible rfl
      rotate_left
      · simp only [Act.put, List.setIfInBounds_toArray, List.set_cons_zero, List.set_cons_succ, i64_w, i32_w]
        rfl
      refine pure_ (i := 12) (N := some 29) (v := ?_) (a' := ?_) #[true, true, true, true, true, true, true, true, true, true, true, true, true, false] rfl rfl (by kernel_rfl) (fun _ _ _ h => h) (Or.inl ⟨by rfl, ?_⟩) ?_ ?_
      rotate_left
      · intro w'
        go_simp
        with_reducible rfl
      rotate_left
      · simp only [Act.put, List.setIfInBounds_toArray, List.set_cons_zero, List.set_cons_succ, i64_w, i32_w]
        rfl
      refine pure_ (i := 13) (N := some 8) (v := ?_) (a' := ?_) #[true, true, true, true, true, true, true, true, true, true, true, true, true, true] rfl rfl (by kernel_rfl) (fun _ _ _ h => h) (Or.inl ⟨by rfl, ?_⟩) ?_ ?_
      rotate_left
      · intro w'
        go_simp
        with_reducible rfl
      rotate_left
      · simp only [Act.put, List.setIfInBounds_toArray, List.set_cons_zero, List.set_cons_succ, i64_w, i32_w]
        rfl
      refine done_ (by kernel_rfl) ?_
      go_wp2
      go_loopw [6, 7, 37] (fun v6 v7 v37 wr => ∃ (k : Nat) (ts : List Int) (es : List S77) (u6 u7 : Value), u6 = v6 ∧ u7 = v7 ∧ v37 = .int .i64 (k : Int) ∧ k ≤ L.length ∧ ts = (L.take k).map (·.f0) ∧ es = (L.take k).map (·.f1) ∧ Aside0 (Kd.R (Kd.int .i64) 3 wr W.heap.size (fun _ => True) u6 ts) ∧ Aside0 (Kd.R k77 77 wr W.heap.size (fun q => True ∧ some q ≠ u6.ownBlock) u7 es) ∧ Aside0 (Below W.heap.size W wr))
        (fun _ _ v37 _ => L.length - (intOf v37).toNat)
      case atStart => exact ⟨0, [], [], _, _, rfl, rfl, rfl, by omega, rfl, rfl, ⟨Kd.R_nil _ _ _ _ _⟩, ⟨Kd.R_nil _ _ _ _ _⟩, ⟨by repeat (first | exact Below.refl _ _ | apply below_drew)⟩⟩
      case round =>
        obtain ⟨k, ts, es, v6, v7, rfl, rfl, rfl, hk, hts, hes, H6, H7, HBr⟩ := hrel
        have HTS := Aside0.mk hts
        have HES := Aside0.mk hes
        by_cases hlt : k < L.length
        · have p1 : 0 ≤ (k : Int) := by omega
          have q1 : (k : Int) < (L.length : Int) := by omega
          obtain ⟨ad, A5, c5, rfl, hy, hy0, hy1, hy2, hy3, hy4, hy5, hyc, hyC⟩ := at_T105 HD1.out (k : Int) p1 q1
          rw [Int.toNat_natCast] at hy hy0 hy1 hy2 hy3 hy4 hy5
          have hym := HML.out (L[k]) (List.getElem_mem hlt)
          rw [← rd105_at L k hlt] at hym
          obtain ⟨y, hyk⟩ : ∃ y, rd_T105 L (k : Int) = y := ⟨_, rfl⟩
          have HYE := Aside0.mk (show y = L[k] by rw [← hyk, rd105_at L k hlt])
          rw [hyk] at hy hy0 hy1 hy2 hy3 hy4 hy5 hyc hyC hym
          have HY5 := Aside0.mk hyC
          have HYC := Aside0.mk hyc
          have HYM := Aside0.mk hym
          have hq := pw_cell_below HBr.out hy
          have hq0 := pw_cell_below HBr.out hy0
          have hq1 := pw_cell_below HBr.out hy1
          have hq2 := pw_cell_below HBr.out hy2
          have hq3 := pw_cell_below HBr.out hy3
          have hq4 := pw_cell_below HBr.out hy4
          have hq5 := pw_cell_below HBr.out hy5
          have hlk : L.length ≤ 64 := by have := HHL.out; omega
          have HTL := Aside0.mk (show ts.length ≤ 64 by rw [hts, List.length_map, List.length_take]; omega)
          have HEL := Aside0.mk (show es.length ≤ 64 by rw [hes, List.length_map, List.length_take]; omega)
          replace p1 := eq_true p1
          replace q1 := eq_true q1
          clear hts hes hyk hyC hyc hym hy hy0 hy1 hy2 hy3 hy4 hy5
          go_wp2_with (first
            | ((with_reducible refine gate_builtin (b := .append) (xs := #[.tmp 41, .tmp 44]) rfl ?_); (try (refine gate_guard (by rfl) ?_; dsimp only)); at_builtin; refine Kd.R_append (Kd.int .i64) (w0 := W) W.heap.size rfl (.tmp 41) (.tmp 44) 24 3 (.int .i64 0) 8 rfl Try.underlying24 info3 rfl (by decide) (by decide) v6 ts y.f0 [.int .i64 y.f0] (fun _ => True) (fun _ => False) rfl ?aX ?aP (fun _ hk => hk.elim) ?aF ?aO ?aB ?aS ?aL ?_; (case aX => (show Value.slice (some ⟨wr.heap.size + 1, 0, none⟩) 1 1 = Value.slice (some ⟨(wr.alloc (.cells #[.int .i64 y.f0, .int .i64 y.f1.f0, .int .i64 y.f1.f1, .int .i64 y.f1.f2, .string y.f1.f3, .slice A5 y.f1.f4.length c5, .int .i64 y.f1.f5] 105)).heap.size, 0, none⟩) 1 1; rw [World.size_alloc])); (case aP => rfl); (case aF => exact fun _ _ => trivial); (case aO => exact Kd.R_alloc H6.out _); (case aB => exact below_alloc HBr.out _); (case aS => have := HBr.out.size; simp; omega); (case aL => have := HTL.out; omega); intro v1 w2 ho_ hb_ hg_ hat_; have H6b := Aside0.mk ho_; have HB2 := Aside0.mk hb_; have H7b := Aside0.mk (Kd.R_after (Kd.R_alloc H7.out _) hg_ hat_); have hbx_ := blk_grown (heap_alloc_new wr (.cells #[.int .i64 y.f0, .int .i64 y.f1.f0, .int .i64 y.f1.f1, .int .i64 y.f1.f2, .string y.f1.f3, .slice A5 y.f1.f4.length c5, .int .i64 y.f1.f5] 105)) hg_ (fun he => by have := own_in H6.out _ he.symm; omega); have HV1 := Aside0.mk (own_in ho_); have hz1 := (blk_cell hbx_ 1).trans rfl; have hz2 := (blk_cell hbx_ 2).trans rfl; have hz3 := (blk_cell hbx_ 3).trans rfl; have hz4 := (blk_cell hbx_ 4).trans rfl; have hz5 := (blk_cell hbx_ 5).trans rfl; have hz6 := (blk_cell hbx_ 6).trans rfl; have HCy := Aside0.mk (Kd.C_below HY5.out hb_); clear ho_ hb_ hg_ hat_ hbx_)
            | (go_at_call 65; refine (twin_calls y.f1 A5 c5 _ HCy.out HYC.out HYM.out).mono ?_; rintro e_ w3 ⟨v4, rfl, hr3_, hb3_⟩; have HR3 := Aside0.mk hr3_; have HB3 := Aside0.mk hb3_; clear hr3_ hb3_)
            | ((with_reducible refine gate_builtin (b := .append) (xs := #[.tmp 46, .tmp 50]) rfl ?_); (try (refine gate_guard (by rfl) ?_; dsimp only)); at_builtin; refine Kd.R_append k77 (w0 := W) W.heap.size rfl (.tmp 46) (.tmp 50) 52 77 (.agg #[.int .i64 0, .int .i64 0, .int .i64 0, .string ⟨#[]⟩, .slice none 0 0, .int .i64 0]) 72 rfl Try.underlying52 info77f rfl (by decide) (by decide) v7 es y.f1 [.int .i64 y.f1.f0, .int .i64 y.f1.f1, .int .i64 y.f1.f2, .string y.f1.f3, v4, .int .i64 y.f1.f5] (fun q => True ∧ some q ≠ v1.ownBlock) (fun q => w2.heap.size ≤ q) rfl rfl ?aP ?aK ?aF ?aO ?aB ?aS ?aL ?_; (case aP => exact k77_mkM _ _ _ y.f1 (Kd.R_lower (Kd.R_mono (Kd.R_bound HR3.out) (fun q hq => hq.2.1)) HB2.out.size)); (case aK => intro q hq; exact ⟨⟨trivial, fun he => by have := HV1.out q he.symm; omega⟩, fun he => by have := own_in H7b.out q he.symm; omega⟩); (case aF => intro q hq; exact ⟨trivial, fun he => by have := HV1.out q he.symm; have := HB3.out.size; omega⟩); (case aO => exact Kd.R_below H7b.out HB3.out); (case aB => exact below_then HB2.out HB2.out.size HB3.out); (case aS => exact Nat.le_trans HB2.out.size HB3.out.size); (case aL => have := HTL.out; have := HEL.out; omega); intro v2 w5 ho_ hb_ hg_ hat_; have H7c := Aside0.mk ho_; have HB5 := Aside0.mk hb_; have H6c := Aside0.mk (Kd.R_mono (Kd.R_grown (tight_int (Kd.R_below H6b.out HB3.out)) hg_ (fun q hq he => (H7b.out.1 q he.symm).2 hq)) (fun q _ => trivial)); clear ho_ hb_ hg_ hat_)
            | go_in)
          go_roundw
          case rel =>
            have hn : L.take (k + 1) = L.take k ++ [y] := by rw [List.take_succ_eq_append_getElem hlt, HYE.out]
            refine ⟨k + 1, ts ++ [y.f0], es ++ [y.f1], _, _, rfl, rfl, rfl, hlt, ?_, ?_, H6c, H7c, HB5⟩
            · rw [hn, List.map_append, HTS.out]; rfl
            · rw [hn, List.map_append, HES.out]; rfl
          case measure =>
            simp only [intOf, Int.toNat_natCast]
            omega
        · have hkl : k = L.length := by omega
          subst hkl
          have hq := eq_false (show ¬ ((L.length : Int) < (L.length : Int)) by omega)
          obtain ⟨Aa, ca, rfl⟩ := Kd.R_slice H6.out
          obtain ⟨Ab, cb_, rfl⟩ := Kd.R_slice H7.out
          clear hts hes hlt hk
          go_wp2
          go_ret2
          refine ⟨Aa, ca, Ab, cb_, ts, es, rfl, H6.out, Kd.R_mono H7.out (fun _ _ => trivial), HBr.out, ?_, ?_⟩
          · rw [HTS.out, List.take_length]
          · rw [HES.out, List.take_length]
  · have d1 : decide (b < i) = false := decide_eq_false cb
    obtain rfl : j = 0 := by rw [← hj]; unfold fromIx; rw [if_neg cb]
    have hcut0 : ∀ W : World, (Instr.slice 101 (.slice A l.length c) (some (.int .i64 0)) none none).run Try.prog W = .ok (.slice A1 L.length c) W := fun W => by have := hcut W; simpa using this
    clear hj hcut hLl
    go_enter Try.func42, Try.ntmps42
    go_wp2
    go_loopw [6, 7, 37] (fun v6 v7 v37 wr => ∃ (k : Nat) (ts : List Int) (es : List S77) (u6 u7 : Value), u6 = v6 ∧ u7 = v7 ∧ v37 = .int .i64 (k : Int) ∧ k ≤ L.length ∧ ts = (L.take k).map (·.f0) ∧ es = (L.take k).map (·.f1) ∧ Aside0 (Kd.R (Kd.int .i64) 3 wr W.heap.size (fun _ => True) u6 ts) ∧ Aside0 (Kd.R k77 77 wr W.heap.size (fun q => True ∧ some q ≠ u6.ownBlock) u7 es) ∧ Aside0 (Below W.heap.size W wr))
      (fun _ _ v37 _ => L.length - (intOf v37).toNat)
    case atStart => exact ⟨0, [], [], _, _, rfl, rfl, rfl, by omega, rfl, rfl, ⟨Kd.R_nil _ _ _ _ _⟩, ⟨Kd.R_nil _ _ _ _ _⟩, ⟨by repeat (first | exact Below.refl _ _ | apply below_drew)⟩⟩
    case round =>
      obtain ⟨k, ts, es, v6, v7, rfl, rfl, rfl, hk, hts, hes, H6, H7, HBr⟩ := hrel
      have HTS := Aside0.mk hts
      have HES := Aside0.mk hes
      by_cases hlt : k < L.length
      · have p1 : 0 ≤ (k : Int) := by omega
        have q1 : (k : Int) < (L.length : Int) := by omega
        obtain ⟨ad, A5, c5, rfl, hy, hy0, hy1, hy2, hy3, hy4, hy5, hyc, hyC⟩ := at_T105 HD1.out (k : Int) p1 q1
        rw [Int.toNat_natCast] at hy hy0 hy1 hy2 hy3 hy4 hy5
        have hym := HML.out (L[k]) (List.getElem_mem hlt)
        rw [← rd105_at L k hlt] at hym
        obtain ⟨y, hyk⟩ : ∃ y, rd_T105 L (k : Int) = y := ⟨_, rfl⟩
        have HYE := Aside0.mk (show y = L[k] by rw [← hyk, rd105_at L k hlt])
        rw [hyk] at hy hy0 hy1 hy2 hy3 hy4 hy5 hyc hyC hym
        have HY5 := Aside0.mk hyC
        have HYC := Aside0.mk hyc
        have HYM := Aside0.mk hym
        have hq := pw_cell_below HBr.out hy
        have hq0 := pw_cell_below HBr.out hy0
        have hq1 := pw_cell_below HBr.out hy1
        have hq2 := pw_cell_below HBr.out hy2
        have hq3 := pw_cell_below HBr.out hy3
        have hq4 := pw_cell_below HBr.out hy4
        have hq5 := pw_cell_below HBr.out hy5
        have hlk : L.length ≤ 64 := by have := HHL.out; omega
        have HTL := Aside0.mk (show ts.length ≤ 64 by rw [hts, List.length_map, List.length_take]; omega)
        have HEL := Aside0.mk (show es.length ≤ 64 by rw [hes, List.length_map, List.length_take]; omega)
        replace p1 := eq_true p1
        replace q1 := eq_true q1
        clear hts hes hyk hyC hyc hym hy hy0 hy1 hy2 hy3 hy4 hy5
        go_wp2_with (first
          | ((with_reducible refine gate_builtin (b := .append) (xs := #[.tmp 41, .tmp 44]) rfl ?_); (try (refine gate_guard (by rfl) ?_; dsimp only)); at_builtin; refine Kd.R_append (Kd.int .i64) (w0 := W) W.heap.size rfl (.tmp 41) (.tmp 44) 24 3 (.int .i64 0) 8 rfl Try.underlying24 info3 rfl (by decide) (by decide) v6 ts y.f0 [.int .i64 y.f0] (fun _ => True) (fun _ => False) rfl ?aX ?aP (fun _ hk => hk.elim) ?aF ?aO ?aB ?aS ?aL ?_; (case aX => (show Value.slice (some ⟨wr.heap.size + 1, 0, none⟩) 1 1 = Value.slice (some ⟨(wr.alloc (.cells #[.int .i64 y.f0, .int .i64 y.f1.f0, .int .i64 y.f1.f1, .int .i64 y.f1.f2, .string y.f1.f3, .slice A5 y.f1.f4.length c5, .int .i64 y.f1.f5] 105)).heap.size, 0, none⟩) 1 1; rw [World.size_alloc])); (case aP => rfl); (case aF => exact fun _ _ => trivial); (case aO => exact Kd.R_alloc H6.out _); (case aB => exact below_alloc HBr.out _); (case aS => have := HBr.out.size; simp; omega); (case aL => have := HTL.out; omega); intro v1 w2 ho_ hb_ hg_ hat_; have H6b := Aside0.mk ho_; have HB2 := Aside0.mk hb_; have H7b := Aside0.mk (Kd.R_after (Kd.R_alloc H7.out _) hg_ hat_); have hbx_ := blk_grown (heap_alloc_new wr (.cells #[.int .i64 y.f0, .int .i64 y.f1.f0, .int .i64 y.f1.f1, .int .i64 y.f1.f2, .string y.f1.f3, .slice A5 y.f1.f4.length c5, .int .i64 y.f1.f5] 105)) hg_ (fun he => by have := own_in H6.out _ he.symm; omega); have HV1 := Aside0.mk (own_in ho_); have hz1 := (blk_cell hbx_ 1).trans rfl; have hz2 := (blk_cell hbx_ 2).trans rfl; have hz3 := (blk_cell hbx_ 3).trans rfl; have hz4 := (blk_cell hbx_ 4).trans rfl; have hz5 := (blk_cell hbx_ 5).trans rfl; have hz6 := (blk_cell hbx_ 6).trans rfl; have HCy := Aside0.mk (Kd.C_below HY5.out hb_); clear ho_ hb_ hg_ hat_ hbx_)
          | (go_at_call 65; refine (twin_calls y.f1 A5 c5 _ HCy.out HYC.out HYM.out).mono ?_; rintro e_ w3 ⟨v4, rfl, hr3_, hb3_⟩; have HR3 := Aside0.mk hr3_; have HB3 := Aside0.mk hb3_; clear hr3_ hb3_)
          | ((with_reducible refine gate_builtin (b := .append) (xs := #[.tmp 46, .tmp 50]) rfl ?_); (try (refine gate_guard (by rfl) ?_; dsimp only)); at_builtin; refine Kd.R_append k77 (w0 := W) W.heap.size rfl (.tmp 46) (.tmp 50) 52 77 (.agg #[.int .i64 0, .int .i64 0, .int .i64 0, .string ⟨#[]⟩, .slice none 0 0, .int .i64 0]) 72 rfl Try.underlying52 info77f rfl (by decide) (by decide) v7 es y.f1 [.int .i64 y.f1.f0, .int .i64 y.f1.f1, .int .i64 y.f1.f2, .string y.f1.f3, v4, .int .i64 y.f1.f5] (fun q => True ∧ some q ≠ v1.ownBlock) (fun q => w2.heap.size ≤ q) rfl rfl ?aP ?aK ?aF ?aO ?aB ?aS ?aL ?_; (case aP => exact k77_mkM _ _ _ y.f1 (Kd.R_lower (Kd.R_mono (Kd.R_bound HR3.out) (fun q hq => hq.2.1)) HB2.out.size)); (case aK => intro q hq; exact ⟨⟨trivial, fun he => by have := HV1.out q he.symm; omega⟩, fun he => by have := own_in H7b.out q he.symm; omega⟩); (case aF => intro q hq; exact ⟨trivial, fun he => by have := HV1.out q he.symm; have := HB3.out.size; omega⟩); (case aO => exact Kd.R_below H7b.out HB3.out); (case aB => exact below_then HB2.out HB2.out.size HB3.out); (case aS => exact Nat.le_trans HB2.out.size HB3.out.size); (case aL => have := HTL.out; have := HEL.out; omega); intro v2 w5 ho_ hb_ hg_ hat_; have H7c := Aside0.mk ho_; have HB5 := Aside0.mk hb_; have H6c := Aside0.mk (Kd.R_mono (Kd.R_grown (tight_int (Kd.R_below H6b.out HB3.out)) hg_ (fun q hq he => (H7b.out.1 q he.symm).2 hq)) (fun q _ => trivial)); clear ho_ hb_ hg_ hat_)
          | go_in)
        go_roundw
        case rel =>
          have hn : L.take (k + 1) = L.take k ++ [y] := by rw [List.take_succ_eq_append_getElem hlt, HYE.out]
          refine ⟨k + 1, ts ++ [y.f0], es ++ [y.f1], _, _, rfl, rfl, rfl, hlt, ?_, ?_, H6c, H7c, HB5⟩
          · rw [hn, List.map_append, HTS.out]; rfl
          · rw [hn, List.map_append, HES.out]; rfl
        case measure =>
          simp only [intOf, Int.toNat_natCast]
          omega
      · have hkl : k = L.length := by omega
        subst hkl
        have hq := eq_false (show ¬ ((L.length : Int) < (L.length : Int)) by omega)
        obtain ⟨Aa, ca, rfl⟩ := Kd.R_slice H6.out
        obtain ⟨Ab, cb_, rfl⟩ := Kd.R_slice H7.out
        clear hts hes hlt hk
        go_wp2
        go_ret2
        refine ⟨Aa, ca, Ab, cb_, ts, es, rfl, H6.out, Kd.R_mono H7.out (fun _ _ => trivial), HBr.out, ?_, ?_⟩
        · rw [HTS.out, List.take_length]
        · rw [HES.out, List.take_length]

end Go.Proofs.Ytbomomaidglegaa.Hist
