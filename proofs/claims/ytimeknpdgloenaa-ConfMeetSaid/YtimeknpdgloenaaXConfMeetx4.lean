/- Laid by xprint.py, a program of this session, which runs the kit's print with contracts of its own. -/
import Derived.Test.YtimeknpdgloenaaShort
import Derived.Test.YtimeknpdgloenaaXConfMeetx0
import Derived.Test.YtimeknpdgloenaaXConfMeetx1
import Derived.Test.YtimeknpdgloenaaXConfMeetx2
import Derived.Test.YtimeknpdgloenaaXConfMeetx3
namespace Go.Proofs.Ytimeknpdgloenaa.XConfMeet
open Go.Proofs.Ytimeknpdgloenaa.Short
open Go.RowKit Go.Proofs.YtimeknpdgloenaaW.PrintWords Go.Proofs.YtimeknpdgloenaaW.PrintLast Go.Proofs.YtimeknpdgloenaaW.PrintMore
attribute [local go_sem] max2_int min2_int max_two min_two max_three min_three max_four min_four   -- for this text's walks alone
set_option linter.unusedVariables false
set_option linter.unusedSimpArgs false

/-! ### synodallaw8_ConfMeet: function 9 -/
mutual
def synodallaw8_ConfMeet.l0 : Nat → List Int → List Int → Bool → Int → List Int → List Int → List Int → List Int → List Int → List Int → Option (Bool)
 | 0, _, _, _, _, _, _, _, _, _, _ => none
 | k + 1, x14, x15, x16, x17, x175000, x175001, x189000, x189001, x204000, x204001 => if x17 < (x14.length : Int) then (synodallaw8_ConfMeet.l1 k x14 x15 x16 x17 0 x175000 x175001 x189000 x189001 x204000 x204001) else (if x16 = true then (some true) else ((conf_Quorum.f k x175000 x175001 x14).bind fun t219 => (if t219 = true then ((conf_Quorum.f k x175000 x175001 x15).bind fun t220 => (if t220 = true then (none) else ((conf_Quorum.f k x189000 x189001 x15).bind fun t222 => (if t222 = true then (none) else ((conf_Quorum.f k x189000 x189001 x14).bind fun t223 => (if t223 = true then ((conf_Quorum.f k x204000 x204001 x15).bind fun t226 => (if t226 = true then (none) else ((conf_Quorum.f k x204000 x204001 x14).bind fun t227 => (if t227 = true then (some (!t226)) else (some (!false)))))) else ((conf_Quorum.f k x204000 x204001 x14).bind fun t230 => (if t230 = true then ((conf_Quorum.f k x204000 x204001 x15).bind fun t231 => (some (!t231))) else (some (!false)))))))))) else ((conf_Quorum.f k x189000 x189001 x14).bind fun t233 => (if t233 = true then ((conf_Quorum.f k x189000 x189001 x15).bind fun t234 => (if t234 = true then (none) else ((conf_Quorum.f k x204000 x204001 x15).bind fun t236 => (if t236 = true then (none) else ((conf_Quorum.f k x204000 x204001 x14).bind fun t237 => (if t237 = true then (some (!t236)) else (some (!false)))))))) else ((conf_Quorum.f k x204000 x204001 x14).bind fun t240 => (if t240 = true then ((conf_Quorum.f k x204000 x204001 x15).bind fun t241 => (some (!t241))) else (some (!false)))))))))
def synodallaw8_ConfMeet.l1 : Nat → List Int → List Int → Bool → Int → Int → List Int → List Int → List Int → List Int → List Int → List Int → Option (Bool)
 | 0, _, _, _, _, _, _, _, _, _, _, _ => none
 | k + 1, x14, x15, x16, x17, x18, x175000, x175001, x189000, x189001, x204000, x204001 => if x18 < (x15.length : Int) then (if x16 = true then (synodallaw8_ConfMeet.l1 k x14 x15 true x17 (wrap64 (x18 + 1)) x175000 x175001 x189000 x189001 x204000 x204001) else (if 0 ≤ x17 then (if x17 < (x14.length : Int) then (if 0 ≤ x18 then (synodallaw8_ConfMeet.l1 k x14 x15 ((rd x14 x17) == (rd x15 x18)) x17 (wrap64 (x18 + 1)) x175000 x175001 x189000 x189001 x204000 x204001) else (none)) else (none)) else (none))) else (synodallaw8_ConfMeet.l0 k x14 x15 x16 (wrap64 (x17 + 1)) x175000 x175001 x189000 x189001 x204000 x204001)
end
def synodallaw8_ConfMeet.f (k : Nat) (a0 : Int) (a1 : Int) (a2 : Int) (a3 : Int) : Option (Bool) := (synodallaw8_known.f k).bind fun t167 => (if t167 = true then ((synodallaw8_Plain.f k a0).bind fun bt168 => ((synodallaw8_Plain.f k a1).bind fun bt175 => ((conf_Enter.f k bt168.1 bt168.2 bt175.2).bind fun bt181 => (if bt181.2.2 = 0 then ((conf_Leave.f bt181.1 bt181.2.1).bind fun bt196 => (if bt196.2.2 = 0 then ((synodallaw8_Plain.f k a1).bind fun bt204 => ((conf_Same.f k bt196.1 bt196.2.1 bt204.1 bt204.2).bind fun t210 => (if t210 = true then ((synodallaw8_all.f k a2).bind fun t211 => ((synodallaw8_all.f k a3).bind fun t214 => (synodallaw8_ConfMeet.l0 k t211 t214 false 0 bt168.1 bt168.2 bt181.1 bt181.2.1 bt196.1 bt196.2.1))) else (none)))) else (none))) else (if bt181.2.2 = 7 then ((synodallaw8_Plain.f k a1).bind fun bt189 => ((conf_Same.f k bt168.1 bt168.2 bt189.1 bt189.2).bind fun t195 => (some t195))) else (none)))))) else (none))
theorem synodallaw8_ConfMeet.mono_l : ∀ k, (∀ y0 y1 y2 y3 y4 y5 y6 y7 y8 y9, LeO (synodallaw8_ConfMeet.l0 k y0 y1 y2 y3 y4 y5 y6 y7 y8 y9) (synodallaw8_ConfMeet.l0 (k + 1) y0 y1 y2 y3 y4 y5 y6 y7 y8 y9)) ∧ (∀ y0 y1 y2 y3 y4 y5 y6 y7 y8 y9 y10, LeO (synodallaw8_ConfMeet.l1 k y0 y1 y2 y3 y4 y5 y6 y7 y8 y9 y10) (synodallaw8_ConfMeet.l1 (k + 1) y0 y1 y2 y3 y4 y5 y6 y7 y8 y9 y10))
 | 0 => ⟨fun _ _ _ _ _ _ _ _ _ _ r h => by simp [synodallaw8_ConfMeet.l0] at h, fun _ _ _ _ _ _ _ _ _ _ _ r h => by simp [synodallaw8_ConfMeet.l1] at h⟩
 | k + 1 => by
  obtain ⟨ih0, ih1⟩ := synodallaw8_ConfMeet.mono_l k
  refine ⟨?_, ?_⟩
  ·
   intro y0 y1 y2 y3 y4 y5 y6 y7 y8 y9
   unfold synodallaw8_ConfMeet.l0
   repeat' first
   | (with_reducible exact ih0 _ _ _ _ _ _ _ _ _ _)
   | (with_reducible exact ih1 _ _ _ _ _ _ _ _ _ _ _)
   | (with_reducible exact conf_Enter.mono _ _ _ _)
   | (with_reducible exact conf_Quorum.mono _ _ _ _)
   | (with_reducible exact conf_Same.mono _ _ _ _ _)
   | (with_reducible exact synodallaw8_Plain.mono _ _)
   | (with_reducible exact synodallaw8_all.mono _ _)
   | (with_reducible exact synodallaw8_known.mono _)
   | (with_reducible exact LeO.refl _)
   | (with_reducible exact LeO.none _)
   | (with_reducible refine LeO.ite ?_ ?_)
   | (with_reducible refine LeO.bind ?_ (fun _ => ?_))
   | exact ih0 _ _ _ _ _ _ _ _ _ _
   | exact ih1 _ _ _ _ _ _ _ _ _ _ _
   | exact conf_Enter.mono _ _ _ _
   | exact conf_Quorum.mono _ _ _ _
   | exact conf_Same.mono _ _ _ _ _
   | exact synodallaw8_Plain.mono _ _
   | exact synodallaw8_all.mono _ _
   | exact synodallaw8_known.mono _
   | exact LeO.none _
   | refine LeO.ite ?_ ?_
   | refine LeO.bind ?_ (fun _ => ?_)
  ·
   intro y0 y1 y2 y3 y4 y5 y6 y7 y8 y9 y10
   unfold synodallaw8_ConfMeet.l1
   repeat' first
   | (with_reducible exact ih0 _ _ _ _ _ _ _ _ _ _)
   | (with_reducible exact ih1 _ _ _ _ _ _ _ _ _ _ _)
   | (with_reducible exact conf_Enter.mono _ _ _ _)
   | (with_reducible exact conf_Quorum.mono _ _ _ _)
   | (with_reducible exact conf_Same.mono _ _ _ _ _)
   | (with_reducible exact synodallaw8_Plain.mono _ _)
   | (with_reducible exact synodallaw8_all.mono _ _)
   | (with_reducible exact synodallaw8_known.mono _)
   | (with_reducible exact LeO.refl _)
   | (with_reducible exact LeO.none _)
   | (with_reducible refine LeO.ite ?_ ?_)
   | (with_reducible refine LeO.bind ?_ (fun _ => ?_))
   | exact ih0 _ _ _ _ _ _ _ _ _ _
   | exact ih1 _ _ _ _ _ _ _ _ _ _ _
   | exact conf_Enter.mono _ _ _ _
   | exact conf_Quorum.mono _ _ _ _
   | exact conf_Same.mono _ _ _ _ _
   | exact synodallaw8_Plain.mono _ _
   | exact synodallaw8_all.mono _ _
   | exact synodallaw8_known.mono _
   | exact LeO.none _
   | refine LeO.ite ?_ ?_
   | refine LeO.bind ?_ (fun _ => ?_)
theorem synodallaw8_ConfMeet.mono : ∀ a0 a1 a2 a3 k, LeO (synodallaw8_ConfMeet.f k a0 a1 a2 a3) (synodallaw8_ConfMeet.f (k + 1) a0 a1 a2 a3) := by
 intro a0 a1 a2 a3 k
 obtain ⟨ih0, ih1⟩ := synodallaw8_ConfMeet.mono_l k
 unfold synodallaw8_ConfMeet.f
 repeat' first
   | (with_reducible exact ih0 _ _ _ _ _ _ _ _ _ _)
   | (with_reducible exact ih1 _ _ _ _ _ _ _ _ _ _ _)
   | (with_reducible exact conf_Enter.mono _ _ _ _)
   | (with_reducible exact conf_Quorum.mono _ _ _ _)
   | (with_reducible exact conf_Same.mono _ _ _ _ _)
   | (with_reducible exact synodallaw8_Plain.mono _ _)
   | (with_reducible exact synodallaw8_all.mono _ _)
   | (with_reducible exact synodallaw8_known.mono _)
   | (with_reducible exact LeO.refl _)
   | (with_reducible exact LeO.none _)
   | (with_reducible refine LeO.ite ?_ ?_)
   | (with_reducible refine LeO.bind ?_ (fun _ => ?_))
   | exact ih0 _ _ _ _ _ _ _ _ _ _
   | exact ih1 _ _ _ _ _ _ _ _ _ _ _
   | exact conf_Enter.mono _ _ _ _
   | exact conf_Quorum.mono _ _ _ _
   | exact conf_Same.mono _ _ _ _ _
   | exact synodallaw8_Plain.mono _ _
   | exact synodallaw8_all.mono _ _
   | exact synodallaw8_known.mono _
   | exact LeO.none _
   | refine LeO.ite ?_ ?_
   | refine LeO.bind ?_ (fun _ => ?_)
def synodallaw8_ConfMeet.T4 : Bool × List (List Nat × List Nat) := (true, [([], []), ([], []), ([1], [1]), ([2], [2]), ([0, 3, 2], [0, 3]), ([4], [4]), ([5], [5]), ([5], [5]), ([], []), ([8, 6, 4, 0, 1, 2, 3, 4, 5, 6, 8], [6, 8]), ([7, 9, 0, 1, 2, 3, 4, 5, 6, 7, 8, 9], [7])])
def synodallaw8_ConfMeet.B4 : List Nat := [0, 0, 2, 6, 15, 31, 63, 63, 0, 383, 1023]
theorem synodallaw8_ConfMeet.tab4 : rtab .any (opsOf Try.f9 4) = synodallaw8_ConfMeet.T4 := by kernel_rfl
theorem synodallaw8_ConfMeet.bits4 : waitsOk synodallaw8_ConfMeet.T4.2 synodallaw8_ConfMeet.B4 = true := by kernel_rfl
def synodallaw8_ConfMeet.T6 : Bool × List (List Nat × List Nat) := (true, [([], []), ([0], [0]), ([1], [1]), ([2], [2]), ([2], [2]), ([4, 2, 2], [2, 4]), ([3, 5, 5, 2], [2, 3, 5]), ([2, 6], [2, 6]), ([7, 6, 0, 1, 2, 3, 4, 5, 6, 7], [7])])
def synodallaw8_ConfMeet.B6 : List Nat := [0, 1, 3, 7, 7, 23, 63, 127, 255]
theorem synodallaw8_ConfMeet.tab6 : rtab .any (opsOf Try.f9 6) = synodallaw8_ConfMeet.T6 := by kernel_rfl
theorem synodallaw8_ConfMeet.bits6 : waitsOk synodallaw8_ConfMeet.T6.2 synodallaw8_ConfMeet.B6 = true := by kernel_rfl
def synodallaw8_ConfMeet.T8 : Bool × List (List Nat × List Nat) := (true, [([], []), ([0], [0]), ([1], [1]), ([2], [2]), ([2], [2]), ([4, 2, 2], [2, 4]), ([3, 5, 5, 2], [2, 3, 5]), ([6, 2], [2, 6]), ([2, 7], [2, 7])])
def synodallaw8_ConfMeet.B8 : List Nat := [0, 1, 3, 7, 7, 23, 63, 127, 255]
theorem synodallaw8_ConfMeet.tab8 : rtab .any (opsOf Try.f9 8) = synodallaw8_ConfMeet.T8 := by kernel_rfl
theorem synodallaw8_ConfMeet.bits8 : waitsOk synodallaw8_ConfMeet.T8.2 synodallaw8_ConfMeet.B8 = true := by kernel_rfl
def synodallaw8_ConfMeet.T18 : Bool × List (List Nat × List Nat) := (true, [([], []), ([0], [0]), ([1], [1]), ([1], [1]), ([2, 3, 1], [1, 2, 3]), ([4, 1], [1, 4]), ([1], [1]), ([1], [1]), ([6, 7, 1], [1, 6, 7]), ([8, 1], [1, 8]), ([5, 9, 1], [1, 5, 9]), ([1, 10], [1, 10]), ([11, 1, 0, 1, 2, 3, 4, 5, 6, 7, 8, 9, 10, 11], [0, 11])])
def synodallaw8_ConfMeet.B18 : List Nat := [0, 1, 3, 3, 15, 31, 3, 3, 195, 451, 1023, 2047, 4095]
theorem synodallaw8_ConfMeet.tab18 : rtab .any (opsOf Try.f9 18) = synodallaw8_ConfMeet.T18 := by kernel_rfl
theorem synodallaw8_ConfMeet.bits18 : waitsOk synodallaw8_ConfMeet.T18.2 synodallaw8_ConfMeet.B18 = true := by kernel_rfl
set_option maxHeartbeats 8000000 in
set_option maxRecDepth 100000 in
theorem synodallaw8_ConfMeet.calls (k : Nat) (a0 : Int) (a1 : Int) (a2 : Int) (a3 : Int) (r : Bool) (w : World) (h : synodallaw8_ConfMeet.f k a0 a1 a2 a3 = some r) :
  Calls Try.prog 9 #[.int .i64 a0, .int .i64 a1, .int .i64 a2, .int .i64 a3] w fun e w' => e = .returned (.bool r) ∧ Below w.heap.size w w' := by
 have hu42 := Try.underlying42
 have hfd42_1 : ∀ (a0_ a1_ : Value) (W_ : World), (Instr.field 42 (.agg #[a0_, a1_]) 1).run Try.prog W_ = .ok a1_ W_ := fun _ _ _ => by first | rfl | (intros; rfl)
 have HB := Aside0.mk (Below.refl w.heap.size w)
 have H : ((synodallaw8_known.f k).bind fun t167 => (if t167 = true then ((synodallaw8_Plain.f k a0).bind fun bt168 => ((synodallaw8_Plain.f k a1).bind fun bt175 => ((conf_Enter.f k bt168.1 bt168.2 bt175.2).bind fun bt181 => (if bt181.2.2 = 0 then ((conf_Leave.f bt181.1 bt181.2.1).bind fun bt196 => (if bt196.2.2 = 0 then ((synodallaw8_Plain.f k a1).bind fun bt204 => ((conf_Same.f k bt196.1 bt196.2.1 bt204.1 bt204.2).bind fun t210 => (if t210 = true then ((synodallaw8_all.f k a2).bind fun t211 => ((synodallaw8_all.f k a3).bind fun t214 => (synodallaw8_ConfMeet.l0 k t211 t214 false 0 bt168.1 bt168.2 bt181.1 bt181.2.1 bt196.1 bt196.2.1))) else (none)))) else (none))) else (if bt181.2.2 = 7 then ((synodallaw8_Plain.f k a1).bind fun bt189 => ((conf_Same.f k bt168.1 bt168.2 bt189.1 bt189.2).bind fun t195 => (some t195))) else (none)))))) else (none))) = some r := h
 clear h
 replace H := Option.bind_eq_some_iff.mp H
 obtain ⟨t167, A50, H⟩ := H
 replace H : (if t167 = true then ((synodallaw8_Plain.f k a0).bind fun bt168 => ((synodallaw8_Plain.f k a1).bind fun bt175 => ((conf_Enter.f k bt168.1 bt168.2 bt175.2).bind fun bt181 => (if bt181.2.2 = 0 then ((conf_Leave.f bt181.1 bt181.2.1).bind fun bt196 => (if bt196.2.2 = 0 then ((synodallaw8_Plain.f k a1).bind fun bt204 => ((conf_Same.f k bt196.1 bt196.2.1 bt204.1 bt204.2).bind fun t210 => (if t210 = true then ((synodallaw8_all.f k a2).bind fun t211 => ((synodallaw8_all.f k a3).bind fun t214 => (synodallaw8_ConfMeet.l0 k t211 t214 false 0 bt168.1 bt168.2 bt181.1 bt181.2.1 bt196.1 bt196.2.1))) else (none)))) else (none))) else (if bt181.2.2 = 7 then ((synodallaw8_Plain.f k a1).bind fun bt189 => ((conf_Same.f k bt168.1 bt168.2 bt189.1 bt189.2).bind fun t195 => (some t195))) else (none)))))) else (none)) = some r := H
 have A5 := Aside0.mk A50
 clear A50
 by_cases c6 : t167 = true
 ·
  subst c6
  have H1 : ((synodallaw8_Plain.f k a0).bind fun bt168 => ((synodallaw8_Plain.f k a1).bind fun bt175 => ((conf_Enter.f k bt168.1 bt168.2 bt175.2).bind fun bt181 => (if bt181.2.2 = 0 then ((conf_Leave.f bt181.1 bt181.2.1).bind fun bt196 => (if bt196.2.2 = 0 then ((synodallaw8_Plain.f k a1).bind fun bt204 => ((conf_Same.f k bt196.1 bt196.2.1 bt204.1 bt204.2).bind fun t210 => (if t210 = true then ((synodallaw8_all.f k a2).bind fun t211 => ((synodallaw8_all.f k a3).bind fun t214 => (synodallaw8_ConfMeet.l0 k t211 t214 false 0 bt168.1 bt168.2 bt181.1 bt181.2.1 bt196.1 bt196.2.1))) else (none)))) else (none))) else (if bt181.2.2 = 7 then ((synodallaw8_Plain.f k a1).bind fun bt189 => ((conf_Same.f k bt168.1 bt168.2 bt189.1 bt189.2).bind fun t195 => (some t195))) else (none)))))) = some r := by rw [if_pos rfl] at H; exact H
  clear H
  have H := H1
  clear H1
  replace H := Option.bind_eq_some_iff.mp H
  obtain ⟨⟨t168, t171⟩, A70, H⟩ := H
  replace H : ((synodallaw8_Plain.f k a1).bind fun bt175 => ((conf_Enter.f k t168 t171 bt175.2).bind fun bt181 => (if bt181.2.2 = 0 then ((conf_Leave.f bt181.1 bt181.2.1).bind fun bt196 => (if bt196.2.2 = 0 then ((synodallaw8_Plain.f k a1).bind fun bt204 => ((conf_Same.f k bt196.1 bt196.2.1 bt204.1 bt204.2).bind fun t210 => (if t210 = true then ((synodallaw8_all.f k a2).bind fun t211 => ((synodallaw8_all.f k a3).bind fun t214 => (synodallaw8_ConfMeet.l0 k t211 t214 false 0 t168 t171 bt181.1 bt181.2.1 bt196.1 bt196.2.1))) else (none)))) else (none))) else (if bt181.2.2 = 7 then ((synodallaw8_Plain.f k a1).bind fun bt189 => ((conf_Same.f k t168 t171 bt189.1 bt189.2).bind fun t195 => (some t195))) else (none))))) = some r := H
  have A7 := Aside0.mk A70
  clear A70
  replace H := Option.bind_eq_some_iff.mp H
  obtain ⟨⟨t175, t178⟩, A80, H⟩ := H
  replace H : ((conf_Enter.f k t168 t171 t178).bind fun bt181 => (if bt181.2.2 = 0 then ((conf_Leave.f bt181.1 bt181.2.1).bind fun bt196 => (if bt196.2.2 = 0 then ((synodallaw8_Plain.f k a1).bind fun bt204 => ((conf_Same.f k bt196.1 bt196.2.1 bt204.1 bt204.2).bind fun t210 => (if t210 = true then ((synodallaw8_all.f k a2).bind fun t211 => ((synodallaw8_all.f k a3).bind fun t214 => (synodallaw8_ConfMeet.l0 k t211 t214 false 0 t168 t171 bt181.1 bt181.2.1 bt196.1 bt196.2.1))) else (none)))) else (none))) else (if bt181.2.2 = 7 then ((synodallaw8_Plain.f k a1).bind fun bt189 => ((conf_Same.f k t168 t171 bt189.1 bt189.2).bind fun t195 => (some t195))) else (none)))) = some r := H
  have A8 := Aside0.mk A80
  clear A80
  replace H := Option.bind_eq_some_iff.mp H
  obtain ⟨⟨t181, t184, t187⟩, A90, H⟩ := H
  replace H : (if t187 = 0 then ((conf_Leave.f t181 t184).bind fun bt196 => (if bt196.2.2 = 0 then ((synodallaw8_Plain.f k a1).bind fun bt204 => ((conf_Same.f k bt196.1 bt196.2.1 bt204.1 bt204.2).bind fun t210 => (if t210 = true then ((synodallaw8_all.f k a2).bind fun t211 => ((synodallaw8_all.f k a3).bind fun t214 => (synodallaw8_ConfMeet.l0 k t211 t214 false 0 t168 t171 t181 t184 bt196.1 bt196.2.1))) else (none)))) else (none))) else (if t187 = 7 then ((synodallaw8_Plain.f k a1).bind fun bt189 => ((conf_Same.f k t168 t171 bt189.1 bt189.2).bind fun t195 => (some t195))) else (none))) = some r := H
  have A9 := Aside0.mk A90
  clear A90
  by_cases c10 : t187 = 0
  ·
   rw [if_pos c10] at H
   have c10b0 : (t187 == 0) = true := beq_iff_eq.mpr c10
   have c10b1 : (t187 != 0) = false := bne_eq_false_iff_eq.mpr c10
   clear c10
   replace H := Option.bind_eq_some_iff.mp H
   obtain ⟨⟨t196, t199, t202⟩, A110, H⟩ := H
   replace H : (if t202 = 0 then ((synodallaw8_Plain.f k a1).bind fun bt204 => ((conf_Same.f k t196 t199 bt204.1 bt204.2).bind fun t210 => (if t210 = true then ((synodallaw8_all.f k a2).bind fun t211 => ((synodallaw8_all.f k a3).bind fun t214 => (synodallaw8_ConfMeet.l0 k t211 t214 false 0 t168 t171 t181 t184 t196 t199))) else (none)))) else (none)) = some r := H
   have A11 := Aside0.mk A110
   clear A110
   by_cases c12 : t202 = 0
   ·
    rw [if_pos c12] at H
    have c12b0 : (t202 == 0) = true := beq_iff_eq.mpr c12
    have c12b1 : (t202 != 0) = false := bne_eq_false_iff_eq.mpr c12
    clear c12
    replace H := Option.bind_eq_some_iff.mp H
    obtain ⟨⟨t204, t207⟩, A130, H⟩ := H
    replace H : ((conf_Same.f k t196 t199 t204 t207).bind fun t210 => (if t210 = true then ((synodallaw8_all.f k a2).bind fun t211 => ((synodallaw8_all.f k a3).bind fun t214 => (synodallaw8_ConfMeet.l0 k t211 t214 false 0 t168 t171 t181 t184 t196 t199))) else (none))) = some r := H
    have A13 := Aside0.mk A130
    clear A130
    replace H := Option.bind_eq_some_iff.mp H
    obtain ⟨t210, A140, H⟩ := H
    replace H : (if t210 = true then ((synodallaw8_all.f k a2).bind fun t211 => ((synodallaw8_all.f k a3).bind fun t214 => (synodallaw8_ConfMeet.l0 k t211 t214 false 0 t168 t171 t181 t184 t196 t199))) else (none)) = some r := H
    have A14 := Aside0.mk A140
    clear A140
    by_cases c15 : t210 = true
    ·
     subst c15
     have H1 : ((synodallaw8_all.f k a2).bind fun t211 => ((synodallaw8_all.f k a3).bind fun t214 => (synodallaw8_ConfMeet.l0 k t211 t214 false 0 t168 t171 t181 t184 t196 t199))) = some r := by rw [if_pos rfl] at H; exact H
     clear H
     have H := H1
     clear H1
     replace H := Option.bind_eq_some_iff.mp H
     obtain ⟨t211, A160, H⟩ := H
     replace H : ((synodallaw8_all.f k a3).bind fun t214 => (synodallaw8_ConfMeet.l0 k t211 t214 false 0 t168 t171 t181 t184 t196 t199)) = some r := H
     have A16 := Aside0.mk A160
     clear A160
     replace H := Option.bind_eq_some_iff.mp H
     obtain ⟨t214, A170, H⟩ := H
     replace H : (synodallaw8_ConfMeet.l0 k t211 t214 false 0 t168 t171 t181 t184 t196 t199) = some r := H
     have A17 := Aside0.mk A170
     clear A170
     have H' := Aside0.mk H
     clear H
     go_enter Try.func9, Try.ntmps9
     try go_wp2_with (first | ((with_reducible refine gate_callee (f := 20) rfl ?_); refine goesL_ (some 19) rfl rfl Try.func20 (by kernel_rfl) rfl #[] rfl (by (try simp only [List.map_toArray, List.map_cons, List.map_nil]); first | done | rfl | (simp only [List.length_drop, List.length_take]; rfl)) ?_; (with_reducible refine (synodallaw8_known.calls k  true _ A5.out).mono ?_); rintro e w18 ⟨rfl, hb⟩; refine ⟨_, rfl, ?_⟩; replace HB := SB HB hb; (try clear hb)) | ((with_reducible refine gate_callee (f := 21) rfl ?_); refine goesL_ (some 22) rfl rfl Try.func21 (by kernel_rfl) rfl #[.int .i64 a0] rfl (by (try simp only [List.map_toArray, List.map_cons, List.map_nil]); first | done | rfl | (simp only [List.length_drop, List.length_take]; rfl)) ?_; (with_reducible refine (synodallaw8_Plain.calls k a0 t168 t171 _ A7.out).mono ?_); rintro e w19 ⟨v169, v172, rfl, ho0, ho1, hb⟩; refine ⟨_, rfl, ?_⟩; have n0_ := Aside0.mk (Kd.R_lower ho0 (below_size (SW HB))); have n1_ := Aside0.mk (Kd.R_lower ho1 (below_size (SW HB))); have n2_ := SB HB hb; clear HB; have HO170 := n0_; have HO173 := n1_; have HB := n2_; clear n0_ n1_ n2_; (try clear hb); (try clear ho0); (try clear ho1)) | ((with_reducible refine gate_dst (N := 9) rfl ?_); refine box_event ?hg (N := 9) ?hd (cs := #[.slice none 0 0, .slice none 0 0]) (t := 42) ?hr ?_; (case hd => rfl); (case hg => rfl); (case hr => first | (go_simp; done) | (go_simp; rfl)); intro gb174 hg w20 hbox hb; have n0_ := RB HO170 hb; have n1_ := RB HO173 hb; have n2_ := SB HB hb; have n3_ := Aside0.mk (hbox); have n4_ := Aside0.mk ((by rw [hg]; exact (below_size (SW HB)) : w.heap.size ≤ gb174)); have n5_ := Aside0.mk ((by rw [hg]; exact (below_size (SW HB)) : w.heap.size ≤ gb174)); clear HO170; clear HO173; clear HB; have HO170 := n0_; have HO173 := n1_; have HB := n2_; have BK174 := n3_; have GW174 := n4_; have GE174 := n5_; clear n0_ n1_ n2_ n3_ n4_ n5_; clear hb hbox hg; obtain ⟨Ao21, co21, eo21⟩ := Kd.R_slice HO170.out; subst eo21; have hcz22_0 := C0 BK174; have hcz22_1 := C1 BK174; have hfz22_0 := blk_frozen BK174.out 0; have hfz22_1 := blk_frozen BK174.out 1; obtain ⟨Ao23, co23, eo23⟩ := Kd.R_slice HO173.out; subst eo23))
     have n0_ : Aside0 (Kd.R (Kd.int .i64) 3 ((w20.setCell ⟨gb174, 0, none⟩ (.slice Ao21 t168.length co21)).setCell ⟨gb174, 1, none⟩ (.slice Ao23 t171.length co23)) w.heap.size (fun k_ => some k_ ≠ (.slice Ao23 t171.length co23 : Value).ownBlock) (.slice Ao21 t168.length co21) t168) := ⟨RX (Kd.R_mono (Kd.R_far (p := ⟨gb174, 1, none⟩) (Kd.R_far (p := ⟨gb174, 0, none⟩) (Kd.R_types HO170.out BK174.out (by decide)) (fun _ hk => hk.2) (.slice Ao21 t168.length co21)) (fun _ hk => hk.2) (.slice Ao23 t171.length co23)) (fun _ hk => hk.1))⟩
     have n1_ : Aside0 (Kd.R (Kd.int .i64) 3 ((w20.setCell ⟨gb174, 0, none⟩ (.slice Ao21 t168.length co21)).setCell ⟨gb174, 1, none⟩ (.slice Ao23 t171.length co23)) w.heap.size (fun k_ => some k_ ≠ (.slice Ao21 t168.length co21 : Value).ownBlock) (.slice Ao23 t171.length co23) t171) := ⟨RX (Kd.R_mono (Kd.R_far (p := ⟨gb174, 1, none⟩) (Kd.R_far (p := ⟨gb174, 0, none⟩) (Kd.R_types HO173.out BK174.out (by decide)) (fun _ hk => hk.2) (.slice Ao21 t168.length co21)) (fun _ hk => hk.2) (.slice Ao23 t171.length co23)) (fun _ hk => hk.1))⟩
     have n2_ : Aside0 (((w20.setCell ⟨gb174, 0, none⟩ (.slice Ao21 t168.length co21)).setCell ⟨gb174, 1, none⟩ (.slice Ao23 t171.length co23)).heap[gb174]? = some (.cells #[.slice Ao21 t168.length co21, .slice Ao23 t171.length co23] 42 (0, 0))) := ⟨by (with_reducible repeat (first | refine blk_drewN ?_ _ | refine blk_drew ?_ | refine blk_alloc ?_ _)); refine blk_put (cs := #[.slice Ao21 t168.length co21, .slice none 0 0]) ?_ 1 _ rfl; (with_reducible repeat (first | refine blk_drewN ?_ _ | refine blk_drew ?_ | refine blk_alloc ?_ _)); refine blk_put (cs := #[.slice none 0 0, .slice none 0 0]) ?_ 0 _ rfl; (with_reducible repeat (first | refine blk_drewN ?_ _ | refine blk_drew ?_ | refine blk_alloc ?_ _)); exact BK174.out⟩
     have n3_ : Aside0 (Below w.heap.size w ((w20.setCell ⟨gb174, 0, none⟩ (.slice Ao21 t168.length co21)).setCell ⟨gb174, 1, none⟩ (.slice Ao23 t171.length co23))) := ⟨SW HB⟩
     (try clear HO170)
     (try clear HO173)
     (try clear BK174)
     (try clear HB)
     generalize ((w20.setCell ⟨gb174, 0, none⟩ (.slice Ao21 t168.length co21)).setCell ⟨gb174, 1, none⟩ (.slice Ao23 t171.length co23)) = w24 at n0_ n1_ n2_ n3_ ⊢
     have HO170 := n0_
     have HO173 := n1_
     have BK174 := n2_
     have HB := n3_
     clear n0_ n1_ n2_ n3_
     have n0_ := Aside0.mk (Kd.R_drew HO170.out)
     have n1_ := Aside0.mk (Kd.R_drew HO173.out)
     have n2_ := Aside0.mk (blk_drew BK174.out)
     have n3_ := Aside0.mk (below_drew1 HB.out)
     clear HO170
     clear HO173
     clear BK174
     clear HB
     have HO170 := n0_
     have HO173 := n1_
     have BK174 := n2_
     have HB := n3_
     clear n0_ n1_ n2_ n3_
     refine start_ (n := 11) (S := fun w' => w'.cell? ⟨gb174, 0, none⟩ = some (.slice Ao21 t168.length co21) ∧ w'.cell? ⟨gb174, 1, none⟩ = some (.slice Ao23 t171.length co23)) (ds := []) #[false, false, false, false, false, false, false, false, false, false, false] (by kernel_rfl) rfl rfl ⟨(blk_cell BK174.out 0).trans rfl, (blk_cell BK174.out 1).trans rfl⟩ (fun hHeld => ?_); refine with_tabW synodallaw8_ConfMeet.tab4 synodallaw8_ConfMeet.bits4 (fun HT_ HW_ => ?_)
     generalize w24.drew = w25 at HO170 HO173 BK174 HB hHeld ⊢
     refine pure_ (i := 1) (N := some 25) (v := ?_) (a' := ?_) #[false, true, false, false, false, false, false, false, false, false, false] rfl rfl (any_of HT_.out (by kernel_rfl)) (fun _ _ _ h => h) (Or.inl ⟨by rfl, ?_⟩) ?_ ?_
     rotate_left
     ·
      intro w'
      go_simp
      with_reducible rfl
     rotate_left
     ·
      simp only [Act.put, List.setIfInBounds_toArray, List.set_cons_zero, List.set_cons_succ, i64_w, i32_w]
      rfl
     refine take_ (i := 0) (N := some 24) (v := ?_) (a' := ?_) #[true, true, false, false, false, false, false, false, false, false, false] rfl rfl (take_ofW HT_.out HW_.out (by kernel_rfl)) (fun _ _ _ h => h) (Or.inl ⟨by rfl, ?_⟩) hHeld ?_ ?_
     rotate_left
     ·
      rintro w' ⟨s0, s1⟩
      go_simp
      with_reducible rfl
     rotate_left
     ·
      simp only [Act.put, List.setIfInBounds_toArray, List.set_cons_zero, List.set_cons_succ, i64_w, i32_w]
      rfl
     refine join_ (σ := Value × Value × Value × Value × Nat) 2 #[true, true, true, true, true, true, true, true, true, false, false] (fun s_ => [(26, .agg #[s_.1, s_.2.1]), (28, .tuple #[.agg #[s_.2.2.1, s_.2.2.2.1], .int .i64 t187]), (10, .pointer (some ⟨s_.2.2.2.2, 0, none⟩)), (27, s_.2.1), (23, .tuple #[.agg #[s_.2.2.1, s_.2.2.2.1], .int .i64 t187]), (29, .agg #[s_.2.2.1, s_.2.2.2.1]), (30, .int .i64 t187)]) (fun s_ w' => (w'.cell? ⟨gb174, 0, none⟩ = some (.slice Ao21 t168.length co21) ∧ w'.cell? ⟨gb174, 1, none⟩ = some (.slice Ao23 t171.length co23)) ∧ (Kd.R (Kd.int .i64) 3 w' w.heap.size (fun k_ => some k_ ≠ (.slice Ao23 t171.length co23 : Value).ownBlock ∧ some k_ ≠ (s_.1 : Value).ownBlock ∧ some k_ ≠ (s_.2.1 : Value).ownBlock ∧ some k_ ≠ (s_.2.2.1 : Value).ownBlock ∧ some k_ ≠ (s_.2.2.2.1 : Value).ownBlock) (.slice Ao21 t168.length co21) t168) ∧ (Kd.R (Kd.int .i64) 3 w' w.heap.size (fun k_ => some k_ ≠ (.slice Ao21 t168.length co21 : Value).ownBlock ∧ some k_ ≠ (s_.1 : Value).ownBlock ∧ some k_ ≠ (s_.2.1 : Value).ownBlock ∧ some k_ ≠ (s_.2.2.1 : Value).ownBlock ∧ some k_ ≠ (s_.2.2.2.1 : Value).ownBlock) (.slice Ao23 t171.length co23) t171) ∧ (Kd.R (Kd.int .i64) 3 w' w.heap.size (fun k_ => some k_ ≠ (.slice Ao21 t168.length co21 : Value).ownBlock ∧ some k_ ≠ (.slice Ao23 t171.length co23 : Value).ownBlock ∧ some k_ ≠ (s_.2.1 : Value).ownBlock ∧ some k_ ≠ (s_.2.2.1 : Value).ownBlock ∧ some k_ ≠ (s_.2.2.2.1 : Value).ownBlock) s_.1 t175) ∧ (Kd.R (Kd.int .i64) 3 w' w.heap.size (fun k_ => some k_ ≠ (.slice Ao21 t168.length co21 : Value).ownBlock ∧ some k_ ≠ (.slice Ao23 t171.length co23 : Value).ownBlock ∧ some k_ ≠ (s_.1 : Value).ownBlock ∧ some k_ ≠ (s_.2.2.1 : Value).ownBlock ∧ some k_ ≠ (s_.2.2.2.1 : Value).ownBlock) s_.2.1 t178) ∧ (Kd.R (Kd.int .i64) 3 w' w.heap.size (fun k_ => some k_ ≠ (.slice Ao21 t168.length co21 : Value).ownBlock ∧ some k_ ≠ (.slice Ao23 t171.length co23 : Value).ownBlock ∧ some k_ ≠ (s_.1 : Value).ownBlock ∧ some k_ ≠ (s_.2.1 : Value).ownBlock ∧ some k_ ≠ (s_.2.2.2.1 : Value).ownBlock) s_.2.2.1 t181) ∧ (Kd.R (Kd.int .i64) 3 w' w.heap.size (fun k_ => some k_ ≠ (.slice Ao21 t168.length co21 : Value).ownBlock ∧ some k_ ≠ (.slice Ao23 t171.length co23 : Value).ownBlock ∧ some k_ ≠ (s_.1 : Value).ownBlock ∧ some k_ ≠ (s_.2.1 : Value).ownBlock ∧ some k_ ≠ (s_.2.2.1 : Value).ownBlock) s_.2.2.2.1 t184) ∧ (w'.heap[gb174]? = some (.cells #[.slice Ao21 t168.length co21, .slice Ao23 t171.length co23] 42 (0, 0))) ∧ (w'.heap[s_.2.2.2.2]? = some (.cells #[.slice none 0 0, .slice none 0 0] 42 (0, 0))) ∧ (w.heap.size ≤ s_.2.2.2.2) ∧ (w.heap.size ≤ s_.2.2.2.2) ∧ (gb174 ≠ s_.2.2.2.2) ∧ (s_.2.2.2.2 ≠ gb174) ∧ (Below w.heap.size w w')) ?_ ?_
     rotate_left
     ·
      intro hCont
      refine two_ (i := 2) (j := 8) (Ni := some 26) (Nj := some 10) #[true, true, true, false, false, false, false, false, false, false, false] #[true, true, false, false, false, false, false, false, true, false, false] rfl rfl rfl rfl (two_of HT_.out (by kernel_rfl)) (by decide) (by decide) (fun K hK => ?_) (fun K hK => ?_)
      ·
       skip
       refine goes_ Try.func21 (by kernel_rfl) rfl #[.int .i64 a1] (by rfl) rfl rfl (by (try simp only [List.map_toArray, List.map_cons, List.map_nil]); first | done | rfl | (simp only [List.length_drop, List.length_take]; rfl)) ?_
       with_reducible refine (synodallaw8_Plain.calls k a1 t175 t178 _ A8.out).mono ?_
       rintro e w26 ⟨v176, v179, rfl, ho0, ho1, hb⟩
       refine ⟨_, rfl, ?_⟩
       have n0_ := Aside0.mk (Kd.R_mono (Kd.R_told (Kd.R_told (Kd.R_old (RW HO170) hb) (Kd.R_base ho0)) (Kd.R_base ho1)) (fun _ h_ => h_.1))
       have n1_ := Aside0.mk (Kd.R_mono (Kd.R_told (Kd.R_told (Kd.R_old (RW HO173) hb) (Kd.R_base ho0)) (Kd.R_base ho1)) (fun _ h_ => h_.1))
       have n2_ := Aside0.mk (Kd.R_lower (Kd.R_new' (Kd.R_new' ho0 (Kd.R_lt (RW HO170))) (Kd.R_lt (RW HO173))) (below_size (SW HB)))
       have n3_ := Aside0.mk (Kd.R_lower (Kd.R_new' (Kd.R_new' ho1 (Kd.R_lt (RW HO170))) (Kd.R_lt (RW HO173))) (below_size (SW HB)))
       have n4_ := BB BK174 hb
       have n5_ := SB HB hb
       clear HO170
       clear HO173
       clear BK174
       clear HB
       have HO170 := n0_
       have HO173 := n1_
       have HO177 := n2_
       have HO180 := n3_
       have BK174 := n4_
       have HB := n5_
       clear n0_ n1_ n2_ n3_ n4_ n5_
       (try clear hb)
       (try clear hb2)
       (try clear hk)
       (try clear hi)
       (try clear ho0)
       (try clear ho1)
       obtain ⟨Ao27, co27, eo27⟩ := Kd.R_slice HO180.out
       (first | subst eo27 | (injection eo27 with f1_ f2_ f3_; have f4_ := f1_.symm; have f5_ := f3_.symm; clear f1_ f2_ f3_; subst f4_; subst f5_))
       refine hK.out _ _ ⟨(blk_cell BK174.out 0).trans rfl, (blk_cell BK174.out 1).trans rfl⟩ (fun hHeld => ?_)
       clear hK K
       refine norm_ (a' := ?_) ?_ ?_
       rotate_left
       ·
        show Act.put _ (some 26) _ = _
        simp only [Act.put, List.setIfInBounds_toArray, List.set_cons_zero, List.set_cons_succ, i64_w, i32_w]
        rfl
       refine pure_ (i := 3) (N := some 27) (v := ?_) (a' := ?_) #[true, true, true, true, false, false, false, false, false, false, false] rfl rfl (any_of HT_.out (by kernel_rfl)) (fun _ _ _ h => h) (Or.inl ⟨by rfl, ?_⟩) ?_ ?_
       rotate_left
       ·
        intro w'
        go_simp
        with_reducible rfl
       rotate_left
       ·
        simp only [Act.put, List.setIfInBounds_toArray, List.set_cons_zero, List.set_cons_succ, i64_w, i32_w]
        rfl
       refine two_ (i := 4) (j := 8) (Ni := some 28) (Nj := some 10) #[true, true, true, true, true, false, false, false, false, false, false] #[true, true, true, true, false, false, false, false, true, false, false] rfl rfl rfl rfl (two_of HT_.out (by kernel_rfl)) (by decide) (by decide) (fun K hK => ?_) (fun K hK => ?_)
       ·
        skip
        refine goes_ Try.func28 (by kernel_rfl) rfl #[.agg #[.slice Ao21 t168.length co21, .slice Ao23 t171.length co23], .slice Ao27 t178.length co27] (by rfl) rfl rfl (by (try simp only [List.map_toArray, List.map_cons, List.map_nil]); first | done | rfl | (simp only [List.length_drop, List.length_take]; rfl)) ?_
        with_reducible refine (conf_Enter.calls k _ _ t168 _ _ t171 _ _ t178 t181 t184 t187 _ ?side1 ?side2 ?side3 ?side4 ?side5 ?side6 A9.out).mono ?_
        (case side1 => exact RC HO170)
        (case side2 => exact RL HO170)
        (case side3 => exact RC HO173)
        (case side4 => exact RL HO173)
        (case side5 => exact RC HO180)
        (case side6 => exact RL HO180)
        rintro e w28 ⟨v182, v185, rfl, ho0, ho1, hb⟩
        refine ⟨_, rfl, ?_⟩
        have n0_ := Aside0.mk (Kd.R_mono (Kd.R_told (Kd.R_told (Kd.R_old (RW HO170) hb) (Kd.R_base ho0)) (Kd.R_base ho1)) (fun _ h_ => h_.1))
        have n1_ := Aside0.mk (Kd.R_mono (Kd.R_told (Kd.R_told (Kd.R_old (RW HO173) hb) (Kd.R_base ho0)) (Kd.R_base ho1)) (fun _ h_ => h_.1))
        have n2_ := Aside0.mk (Kd.R_mono (Kd.R_told (Kd.R_told (Kd.R_old (RW HO177) hb) (Kd.R_base ho0)) (Kd.R_base ho1)) (fun _ h_ => h_.1))
        have n3_ := Aside0.mk (Kd.R_mono (Kd.R_told (Kd.R_told (Kd.R_old (RW HO180) hb) (Kd.R_base ho0)) (Kd.R_base ho1)) (fun _ h_ => h_.1))
        have n4_ := Aside0.mk (Kd.R_lower (Kd.R_new' (Kd.R_new' (Kd.R_new' (Kd.R_new' ho0 (Kd.R_lt (RW HO170))) (Kd.R_lt (RW HO173))) (Kd.R_lt (RW HO177))) (Kd.R_lt (RW HO180))) (below_size (SW HB)))
        have n5_ := Aside0.mk (Kd.R_lower (Kd.R_new' (Kd.R_new' (Kd.R_new' (Kd.R_new' ho1 (Kd.R_lt (RW HO170))) (Kd.R_lt (RW HO173))) (Kd.R_lt (RW HO177))) (Kd.R_lt (RW HO180))) (below_size (SW HB)))
        have n6_ := BB BK174 hb
        have n7_ := SB HB hb
        clear HO170
        clear HO173
        clear HO177
        clear HO180
        clear BK174
        clear HB
        have HO170 := n0_
        have HO173 := n1_
        have HO177 := n2_
        have HO180 := n3_
        have HO183 := n4_
        have HO186 := n5_
        have BK174 := n6_
        have HB := n7_
        clear n0_ n1_ n2_ n3_ n4_ n5_ n6_ n7_
        (try clear hb)
        (try clear hb2)
        (try clear hk)
        (try clear hi)
        (try clear ho0)
        (try clear ho1)
        refine hK.out _ _ ⟨(blk_cell BK174.out 0).trans rfl, (blk_cell BK174.out 1).trans rfl⟩ (fun hHeld => ?_)
        clear hK K
        refine norm_ (a' := ?_) ?_ ?_
        rotate_left
        ·
         show Act.put _ (some 28) _ = _
         simp only [Act.put, List.setIfInBounds_toArray, List.set_cons_zero, List.set_cons_succ, i64_w, i32_w]
         rfl
        refine pure_ (i := 5) (N := some 23) (v := ?_) (a' := ?_) #[true, true, true, true, true, true, false, false, false, false, false] rfl rfl (any_of HT_.out (by kernel_rfl)) (fun _ _ _ h => h) (Or.inl ⟨by rfl, ?_⟩) ?_ ?_
        rotate_left
        ·
         intro w'
         go_simp
         with_reducible rfl
        rotate_left
        ·
         simp only [Act.put, List.setIfInBounds_toArray, List.set_cons_zero, List.set_cons_succ, i64_w, i32_w]
         rfl
        refine pure_ (i := 6) (N := some 29) (v := ?_) (a' := ?_) #[true, true, true, true, true, true, true, false, false, false, false] rfl rfl (any_of HT_.out (by kernel_rfl)) (fun _ _ _ h => h) (Or.inl ⟨by rfl, ?_⟩) ?_ ?_
        rotate_left
        ·
         intro w'
         go_simp
         with_reducible rfl
        rotate_left
        ·
         simp only [Act.put, List.setIfInBounds_toArray, List.set_cons_zero, List.set_cons_succ, i64_w, i32_w]
         rfl
        refine pure_ (i := 7) (N := some 30) (v := ?_) (a' := ?_) #[true, true, true, true, true, true, true, true, false, false, false] rfl rfl (any_of HT_.out (by kernel_rfl)) (fun _ _ _ h => h) (Or.inl ⟨by rfl, ?_⟩) ?_ ?_
        rotate_left
        ·
         intro w'
         go_simp
         with_reducible rfl
        rotate_left
        ·
         simp only [Act.put, List.setIfInBounds_toArray, List.set_cons_zero, List.set_cons_succ, i64_w, i32_w]
         rfl
        refine one_ (i := 8) (N := some 10) #[true, true, true, true, true, true, true, true, true, false, false] rfl rfl (one_of HT_.out (by kernel_rfl)) (by decide) (fun K hK => ?_)
        refine box_step ?hg (N := 10) ?hd (cs := #[.slice none 0 0, .slice none 0 0]) (t := 42) ?hr ?_; (case hd => rfl); (case hg => rfl); (case hr => first | (go_simp; done) | (go_simp; rfl))
        intro gb188 hg w29 hbox hb
        have n0_ := RB HO170 hb
        have n1_ := RB HO173 hb
        have n2_ := RB HO177 hb
        have n3_ := RB HO180 hb
        have n4_ := RB HO183 hb
        have n5_ := RB HO186 hb
        have n6_ := BB BK174 hb
        have n7_ := SB HB hb
        have n8_ := Aside0.mk (hbox)
        have n9_ := Aside0.mk ((by rw [hg]; exact (below_size (SW HB)) : w.heap.size ≤ gb188))
        have n10_ := Aside0.mk ((by rw [hg]; exact (below_size (SW HB)) : w.heap.size ≤ gb188))
        have n11_ := Aside0.mk ((by rw [hg]; exact Nat.ne_of_lt (blk_lt (g := gb174) (o := .cells #[.slice Ao21 t168.length co21, .slice Ao23 t171.length co23] 42 (0, 0)) (BW BK174)) : gb174 ≠ gb188))
        have n12_ := Aside0.mk ((by rw [hg]; exact Nat.ne_of_gt (blk_lt (g := gb174) (o := .cells #[.slice Ao21 t168.length co21, .slice Ao23 t171.length co23] 42 (0, 0)) (BW BK174)) : gb188 ≠ gb174))
        clear HO170
        clear HO173
        clear HO177
        clear HO180
        clear HO183
        clear HO186
        clear BK174
        clear HB
        have HO170 := n0_
        have HO173 := n1_
        have HO177 := n2_
        have HO180 := n3_
        have HO183 := n4_
        have HO186 := n5_
        have BK174 := n6_
        have HB := n7_
        have BK188 := n8_
        have GW188 := n9_
        have GE188 := n10_
        have NB174_188 := n11_
        have NB188_174 := n12_
        clear n0_ n1_ n2_ n3_ n4_ n5_ n6_ n7_ n8_ n9_ n10_ n11_ n12_
        clear hb hbox hg
        refine hK.out _ _ ⟨(blk_cell BK174.out 0).trans rfl, (blk_cell BK174.out 1).trans rfl⟩ (fun hHeld => ?_)
        clear hK K
        refine norm_ (a' := ?_) ?_ ?_
        rotate_left
        ·
         show Act.put _ (some 10) _ = _
         simp only [Act.put, List.setIfInBounds_toArray, List.set_cons_zero, List.set_cons_succ, i64_w, i32_w]
         rfl
        exact norm_ (by simp only [putAll, Act.put, List.setIfInBounds_toArray, List.set_cons_zero, List.set_cons_succ]) (hCont (v176, .slice Ao27 t178.length co27, v182, v185, gb188) _ ⟨hHeld, (RX (Kd.R_mono HO170.out (fun _ hk => ⟨hk.1.1.1.1, ⟨hk.1.1.1.2, ⟨hk.1.1.2, ⟨hk.1.2, hk.2⟩⟩⟩⟩))), (RX (Kd.R_mono HO173.out (fun _ hk => ⟨hk.1.1.1.1, ⟨hk.1.1.1.2, ⟨hk.1.1.2, ⟨hk.1.2, hk.2⟩⟩⟩⟩))), (RX (Kd.R_mono HO177.out (fun _ hk => ⟨hk.1.1.1.2, ⟨hk.1.1.2, ⟨hk.1.1.1.1, ⟨hk.1.2, hk.2⟩⟩⟩⟩))), (RX (Kd.R_mono HO180.out (fun _ hk => ⟨hk.1.1.1.2, ⟨hk.1.1.2, ⟨hk.1.1.1.1, ⟨hk.1.2, hk.2⟩⟩⟩⟩))), (RX (Kd.R_mono HO183.out (fun _ hk => ⟨hk.1.1.1.2, ⟨hk.1.1.2, ⟨hk.1.2, ⟨hk.2, hk.1.1.1.1⟩⟩⟩⟩))), (RX (Kd.R_mono HO186.out (fun _ hk => ⟨hk.1.1.1.2, ⟨hk.1.1.2, ⟨hk.1.2, ⟨hk.2, hk.1.1.1.1⟩⟩⟩⟩))), (BW BK174), (BW BK188), GW188.out, GE188.out, NB174_188.out, NB188_174.out, (SW HB)⟩)
       ·
        skip
        refine box_step ?hg (N := 10) ?hd (cs := #[.slice none 0 0, .slice none 0 0]) (t := 42) ?hr ?_; (case hd => rfl); (case hg => rfl); (case hr => first | (go_simp; done) | (go_simp; rfl))
        intro gb188 hg w27 hbox hb
        have n0_ := RB HO170 hb
        have n1_ := RB HO173 hb
        have n2_ := RB HO177 hb
        have n3_ := RB HO180 hb
        have n4_ := BB BK174 hb
        have n5_ := SB HB hb
        have n6_ := Aside0.mk (hbox)
        have n7_ := Aside0.mk ((by rw [hg]; exact (below_size (SW HB)) : w.heap.size ≤ gb188))
        have n8_ := Aside0.mk ((by rw [hg]; exact (below_size (SW HB)) : w.heap.size ≤ gb188))
        have n9_ := Aside0.mk ((by rw [hg]; exact Nat.ne_of_lt (blk_lt (g := gb174) (o := .cells #[.slice Ao21 t168.length co21, .slice Ao23 t171.length co23] 42 (0, 0)) (BW BK174)) : gb174 ≠ gb188))
        have n10_ := Aside0.mk ((by rw [hg]; exact Nat.ne_of_gt (blk_lt (g := gb174) (o := .cells #[.slice Ao21 t168.length co21, .slice Ao23 t171.length co23] 42 (0, 0)) (BW BK174)) : gb188 ≠ gb174))
        clear HO170
        clear HO173
        clear HO177
        clear HO180
        clear BK174
        clear HB
        have HO170 := n0_
        have HO173 := n1_
        have HO177 := n2_
        have HO180 := n3_
        have BK174 := n4_
        have HB := n5_
        have BK188 := n6_
        have GW188 := n7_
        have GE188 := n8_
        have NB174_188 := n9_
        have NB188_174 := n10_
        clear n0_ n1_ n2_ n3_ n4_ n5_ n6_ n7_ n8_ n9_ n10_
        clear hb hbox hg
        obtain ⟨Ao28, co28, eo28⟩ := Kd.R_slice HO180.out
        (first | subst eo28 | (injection eo28 with f1_ f2_ f3_; have f4_ := f1_.symm; have f5_ := f3_.symm; clear f1_ f2_ f3_; subst f4_; subst f5_))
        refine hK.out _ _ ⟨(blk_cell BK174.out 0).trans rfl, (blk_cell BK174.out 1).trans rfl⟩ (fun hHeld => ?_)
        clear hK K
        refine norm_ (a' := ?_) ?_ ?_
        rotate_left
        ·
         show Act.put _ (some 10) _ = _
         simp only [Act.put, List.setIfInBounds_toArray, List.set_cons_zero, List.set_cons_succ, i64_w, i32_w]
         rfl
        refine one_ (i := 4) (N := some 28) #[true, true, true, true, true, false, false, false, true, false, false] rfl rfl (one_of HT_.out (by kernel_rfl)) (by decide) (fun K hK => ?_)
        refine goes_ Try.func28 (by kernel_rfl) rfl #[.agg #[.slice Ao21 t168.length co21, .slice Ao23 t171.length co23], .slice Ao28 t178.length co28] (by rfl) rfl rfl (by (try simp only [List.map_toArray, List.map_cons, List.map_nil]); first | done | rfl | (simp only [List.length_drop, List.length_take]; rfl)) ?_
        with_reducible refine (conf_Enter.calls k _ _ t168 _ _ t171 _ _ t178 t181 t184 t187 _ ?side1 ?side2 ?side3 ?side4 ?side5 ?side6 A9.out).mono ?_
        (case side1 => exact RC HO170)
        (case side2 => exact RL HO170)
        (case side3 => exact RC HO173)
        (case side4 => exact RL HO173)
        (case side5 => exact RC HO180)
        (case side6 => exact RL HO180)
        rintro e w29 ⟨v182, v185, rfl, ho0, ho1, hb⟩
        refine ⟨_, rfl, ?_⟩
        have n0_ := Aside0.mk (Kd.R_mono (Kd.R_told (Kd.R_told (Kd.R_old (RW HO170) hb) (Kd.R_base ho0)) (Kd.R_base ho1)) (fun _ h_ => h_.1))
        have n1_ := Aside0.mk (Kd.R_mono (Kd.R_told (Kd.R_told (Kd.R_old (RW HO173) hb) (Kd.R_base ho0)) (Kd.R_base ho1)) (fun _ h_ => h_.1))
        have n2_ := Aside0.mk (Kd.R_mono (Kd.R_told (Kd.R_told (Kd.R_old (RW HO177) hb) (Kd.R_base ho0)) (Kd.R_base ho1)) (fun _ h_ => h_.1))
        have n3_ := Aside0.mk (Kd.R_mono (Kd.R_told (Kd.R_told (Kd.R_old (RW HO180) hb) (Kd.R_base ho0)) (Kd.R_base ho1)) (fun _ h_ => h_.1))
        have n4_ := Aside0.mk (Kd.R_lower (Kd.R_new' (Kd.R_new' (Kd.R_new' (Kd.R_new' ho0 (Kd.R_lt (RW HO170))) (Kd.R_lt (RW HO173))) (Kd.R_lt (RW HO177))) (Kd.R_lt (RW HO180))) (below_size (SW HB)))
        have n5_ := Aside0.mk (Kd.R_lower (Kd.R_new' (Kd.R_new' (Kd.R_new' (Kd.R_new' ho1 (Kd.R_lt (RW HO170))) (Kd.R_lt (RW HO173))) (Kd.R_lt (RW HO177))) (Kd.R_lt (RW HO180))) (below_size (SW HB)))
        have n6_ := BB BK174 hb
        have n7_ := BB BK188 hb
        have n8_ := SB HB hb
        clear HO170
        clear HO173
        clear HO177
        clear HO180
        clear BK174
        clear BK188
        clear HB
        have HO170 := n0_
        have HO173 := n1_
        have HO177 := n2_
        have HO180 := n3_
        have HO183 := n4_
        have HO186 := n5_
        have BK174 := n6_
        have BK188 := n7_
        have HB := n8_
        clear n0_ n1_ n2_ n3_ n4_ n5_ n6_ n7_ n8_
        (try clear hb)
        (try clear hb2)
        (try clear hk)
        (try clear hi)
        (try clear ho0)
        (try clear ho1)
        refine hK.out _ _ ⟨(blk_cell BK174.out 0).trans rfl, (blk_cell BK174.out 1).trans rfl⟩ (fun hHeld => ?_)
        clear hK K
        refine norm_ (a' := ?_) ?_ ?_
        rotate_left
        ·
         show Act.put _ (some 28) _ = _
         simp only [Act.put, List.setIfInBounds_toArray, List.set_cons_zero, List.set_cons_succ, i64_w, i32_w]
         rfl
        refine pure_ (i := 5) (N := some 23) (v := ?_) (a' := ?_) #[true, true, true, true, true, true, false, false, true, false, false] rfl rfl (any_of HT_.out (by kernel_rfl)) (fun _ _ _ h => h) (Or.inl ⟨by rfl, ?_⟩) ?_ ?_
        rotate_left
        ·
         intro w'
         go_simp
         with_reducible rfl
        rotate_left
        ·
         simp only [Act.put, List.setIfInBounds_toArray, List.set_cons_zero, List.set_cons_succ, i64_w, i32_w]
         rfl
        refine pure_ (i := 6) (N := some 29) (v := ?_) (a' := ?_) #[true, true, true, true, true, true, true, false, true, false, false] rfl rfl (any_of HT_.out (by kernel_rfl)) (fun _ _ _ h => h) (Or.inl ⟨by rfl, ?_⟩) ?_ ?_
        rotate_left
        ·
         intro w'
         go_simp
         with_reducible rfl
        rotate_left
        ·
         simp only [Act.put, List.setIfInBounds_toArray, List.set_cons_zero, List.set_cons_succ, i64_w, i32_w]
         rfl
        refine pure_ (i := 7) (N := some 30) (v := ?_) (a' := ?_) #[true, true, true, true, true, true, true, true, true, false, false] rfl rfl (any_of HT_.out (by kernel_rfl)) (fun _ _ _ h => h) (Or.inl ⟨by rfl, ?_⟩) ?_ ?_
        rotate_left
        ·
         intro w'
         go_simp
         with_reducible rfl
        rotate_left
        ·
         simp only [Act.put, List.setIfInBounds_toArray, List.set_cons_zero, List.set_cons_succ, i64_w, i32_w]
         rfl
        exact norm_ (by simp only [putAll, Act.put, List.setIfInBounds_toArray, List.set_cons_zero, List.set_cons_succ]) (hCont (v176, .slice Ao28 t178.length co28, v182, v185, gb188) _ ⟨hHeld, (RX (Kd.R_mono HO170.out (fun _ hk => ⟨hk.1.1.1.1, ⟨hk.1.1.1.2, ⟨hk.1.1.2, ⟨hk.1.2, hk.2⟩⟩⟩⟩))), (RX (Kd.R_mono HO173.out (fun _ hk => ⟨hk.1.1.1.1, ⟨hk.1.1.1.2, ⟨hk.1.1.2, ⟨hk.1.2, hk.2⟩⟩⟩⟩))), (RX (Kd.R_mono HO177.out (fun _ hk => ⟨hk.1.1.1.2, ⟨hk.1.1.2, ⟨hk.1.1.1.1, ⟨hk.1.2, hk.2⟩⟩⟩⟩))), (RX (Kd.R_mono HO180.out (fun _ hk => ⟨hk.1.1.1.2, ⟨hk.1.1.2, ⟨hk.1.1.1.1, ⟨hk.1.2, hk.2⟩⟩⟩⟩))), (RX (Kd.R_mono HO183.out (fun _ hk => ⟨hk.1.1.1.2, ⟨hk.1.1.2, ⟨hk.1.2, ⟨hk.2, hk.1.1.1.1⟩⟩⟩⟩))), (RX (Kd.R_mono HO186.out (fun _ hk => ⟨hk.1.1.1.2, ⟨hk.1.1.2, ⟨hk.1.2, ⟨hk.2, hk.1.1.1.1⟩⟩⟩⟩))), (BW BK174), (BW BK188), GW188.out, GE188.out, NB174_188.out, NB188_174.out, (SW HB)⟩)
      ·
       skip
       refine box_step ?hg (N := 10) ?hd (cs := #[.slice none 0 0, .slice none 0 0]) (t := 42) ?hr ?_; (case hd => rfl); (case hg => rfl); (case hr => first | (go_simp; done) | (go_simp; rfl))
       intro gb188 hg w26 hbox hb
       have n0_ := RB HO170 hb
       have n1_ := RB HO173 hb
       have n2_ := BB BK174 hb
       have n3_ := SB HB hb
       have n4_ := Aside0.mk (hbox)
       have n5_ := Aside0.mk ((by rw [hg]; exact (below_size (SW HB)) : w.heap.size ≤ gb188))
       have n6_ := Aside0.mk ((by rw [hg]; exact (below_size (SW HB)) : w.heap.size ≤ gb188))
       have n7_ := Aside0.mk ((by rw [hg]; exact Nat.ne_of_lt (blk_lt (g := gb174) (o := .cells #[.slice Ao21 t168.length co21, .slice Ao23 t171.length co23] 42 (0, 0)) (BW BK174)) : gb174 ≠ gb188))
       have n8_ := Aside0.mk ((by rw [hg]; exact Nat.ne_of_gt (blk_lt (g := gb174) (o := .cells #[.slice Ao21 t168.length co21, .slice Ao23 t171.length co23] 42 (0, 0)) (BW BK174)) : gb188 ≠ gb174))
       clear HO170
       clear HO173
       clear BK174
       clear HB
       have HO170 := n0_
       have HO173 := n1_
       have BK174 := n2_
       have HB := n3_
       have BK188 := n4_
       have GW188 := n5_
       have GE188 := n6_
       have NB174_188 := n7_
       have NB188_174 := n8_
       clear n0_ n1_ n2_ n3_ n4_ n5_ n6_ n7_ n8_
       clear hb hbox hg
       refine hK.out _ _ ⟨(blk_cell BK174.out 0).trans rfl, (blk_cell BK174.out 1).trans rfl⟩ (fun hHeld => ?_)
       clear hK K
       refine norm_ (a' := ?_) ?_ ?_
       rotate_left
       ·
        show Act.put _ (some 10) _ = _
        simp only [Act.put, List.setIfInBounds_toArray, List.set_cons_zero, List.set_cons_succ, i64_w, i32_w]
        rfl
       refine one_ (i := 2) (N := some 26) #[true, true, true, false, false, false, false, false, true, false, false] rfl rfl (one_of HT_.out (by kernel_rfl)) (by decide) (fun K hK => ?_)
       refine goes_ Try.func21 (by kernel_rfl) rfl #[.int .i64 a1] (by rfl) rfl rfl (by (try simp only [List.map_toArray, List.map_cons, List.map_nil]); first | done | rfl | (simp only [List.length_drop, List.length_take]; rfl)) ?_
       with_reducible refine (synodallaw8_Plain.calls k a1 t175 t178 _ A8.out).mono ?_
       rintro e w27 ⟨v176, v179, rfl, ho0, ho1, hb⟩
       refine ⟨_, rfl, ?_⟩
       have n0_ := Aside0.mk (Kd.R_mono (Kd.R_told (Kd.R_told (Kd.R_old (RW HO170) hb) (Kd.R_base ho0)) (Kd.R_base ho1)) (fun _ h_ => h_.1))
       have n1_ := Aside0.mk (Kd.R_mono (Kd.R_told (Kd.R_told (Kd.R_old (RW HO173) hb) (Kd.R_base ho0)) (Kd.R_base ho1)) (fun _ h_ => h_.1))
       have n2_ := Aside0.mk (Kd.R_lower (Kd.R_new' (Kd.R_new' ho0 (Kd.R_lt (RW HO170))) (Kd.R_lt (RW HO173))) (below_size (SW HB)))
       have n3_ := Aside0.mk (Kd.R_lower (Kd.R_new' (Kd.R_new' ho1 (Kd.R_lt (RW HO170))) (Kd.R_lt (RW HO173))) (below_size (SW HB)))
       have n4_ := BB BK174 hb
       have n5_ := BB BK188 hb
       have n6_ := SB HB hb
       clear HO170
       clear HO173
       clear BK174
       clear BK188
       clear HB
       have HO170 := n0_
       have HO173 := n1_
       have HO177 := n2_
       have HO180 := n3_
       have BK174 := n4_
       have BK188 := n5_
       have HB := n6_
       clear n0_ n1_ n2_ n3_ n4_ n5_ n6_
       (try clear hb)
       (try clear hb2)
       (try clear hk)
       (try clear hi)
       (try clear ho0)
       (try clear ho1)
       obtain ⟨Ao28, co28, eo28⟩ := Kd.R_slice HO180.out
       (first | subst eo28 | (injection eo28 with f1_ f2_ f3_; have f4_ := f1_.symm; have f5_ := f3_.symm; clear f1_ f2_ f3_; subst f4_; subst f5_))
       refine hK.out _ _ ⟨(blk_cell BK174.out 0).trans rfl, (blk_cell BK174.out 1).trans rfl⟩ (fun hHeld => ?_)
       clear hK K
       refine norm_ (a' := ?_) ?_ ?_
       rotate_left
       ·
        show Act.put _ (some 26) _ = _
        simp only [Act.put, List.setIfInBounds_toArray, List.set_cons_zero, List.set_cons_succ, i64_w, i32_w]
        rfl
       refine pure_ (i := 3) (N := some 27) (v := ?_) (a' := ?_) #[true, true, true, true, false, false, false, false, true, false, false] rfl rfl (any_of HT_.out (by kernel_rfl)) (fun _ _ _ h => h) (Or.inl ⟨by rfl, ?_⟩) ?_ ?_
       rotate_left
       ·
        intro w'
        go_simp
        with_reducible rfl
       rotate_left
       ·
        simp only [Act.put, List.setIfInBounds_toArray, List.set_cons_zero, List.set_cons_succ, i64_w, i32_w]
        rfl
       refine one_ (i := 4) (N := some 28) #[true, true, true, true, true, false, false, false, true, false, false] rfl rfl (one_of HT_.out (by kernel_rfl)) (by decide) (fun K hK => ?_)
       refine goes_ Try.func28 (by kernel_rfl) rfl #[.agg #[.slice Ao21 t168.length co21, .slice Ao23 t171.length co23], .slice Ao28 t178.length co28] (by rfl) rfl rfl (by (try simp only [List.map_toArray, List.map_cons, List.map_nil]); first | done | rfl | (simp only [List.length_drop, List.length_take]; rfl)) ?_
       with_reducible refine (conf_Enter.calls k _ _ t168 _ _ t171 _ _ t178 t181 t184 t187 _ ?side1 ?side2 ?side3 ?side4 ?side5 ?side6 A9.out).mono ?_
       (case side1 => exact RC HO170)
       (case side2 => exact RL HO170)
       (case side3 => exact RC HO173)
       (case side4 => exact RL HO173)
       (case side5 => exact RC HO180)
       (case side6 => exact RL HO180)
       rintro e w29 ⟨v182, v185, rfl, ho0, ho1, hb⟩
       refine ⟨_, rfl, ?_⟩
       have n0_ := Aside0.mk (Kd.R_mono (Kd.R_told (Kd.R_told (Kd.R_old (RW HO170) hb) (Kd.R_base ho0)) (Kd.R_base ho1)) (fun _ h_ => h_.1))
       have n1_ := Aside0.mk (Kd.R_mono (Kd.R_told (Kd.R_told (Kd.R_old (RW HO173) hb) (Kd.R_base ho0)) (Kd.R_base ho1)) (fun _ h_ => h_.1))
       have n2_ := Aside0.mk (Kd.R_mono (Kd.R_told (Kd.R_told (Kd.R_old (RW HO177) hb) (Kd.R_base ho0)) (Kd.R_base ho1)) (fun _ h_ => h_.1))
       have n3_ := Aside0.mk (Kd.R_mono (Kd.R_told (Kd.R_told (Kd.R_old (RW HO180) hb) (Kd.R_base ho0)) (Kd.R_base ho1)) (fun _ h_ => h_.1))
       have n4_ := Aside0.mk (Kd.R_lower (Kd.R_new' (Kd.R_new' (Kd.R_new' (Kd.R_new' ho0 (Kd.R_lt (RW HO170))) (Kd.R_lt (RW HO173))) (Kd.R_lt (RW HO177))) (Kd.R_lt (RW HO180))) (below_size (SW HB)))
       have n5_ := Aside0.mk (Kd.R_lower (Kd.R_new' (Kd.R_new' (Kd.R_new' (Kd.R_new' ho1 (Kd.R_lt (RW HO170))) (Kd.R_lt (RW HO173))) (Kd.R_lt (RW HO177))) (Kd.R_lt (RW HO180))) (below_size (SW HB)))
       have n6_ := BB BK174 hb
       have n7_ := BB BK188 hb
       have n8_ := SB HB hb
       clear HO170
       clear HO173
       clear HO177
       clear HO180
       clear BK174
       clear BK188
       clear HB
       have HO170 := n0_
       have HO173 := n1_
       have HO177 := n2_
       have HO180 := n3_
       have HO183 := n4_
       have HO186 := n5_
       have BK174 := n6_
       have BK188 := n7_
       have HB := n8_
       clear n0_ n1_ n2_ n3_ n4_ n5_ n6_ n7_ n8_
       (try clear hb)
       (try clear hb2)
       (try clear hk)
       (try clear hi)
       (try clear ho0)
       (try clear ho1)
       refine hK.out _ _ ⟨(blk_cell BK174.out 0).trans rfl, (blk_cell BK174.out 1).trans rfl⟩ (fun hHeld => ?_)
       clear hK K
       refine norm_ (a' := ?_) ?_ ?_
       rotate_left
       ·
        show Act.put _ (some 28) _ = _
        simp only [Act.put, List.setIfInBounds_toArray, List.set_cons_zero, List.set_cons_succ, i64_w, i32_w]
        rfl
       refine pure_ (i := 5) (N := some 23) (v := ?_) (a' := ?_) #[true, true, true, true, true, true, false, false, true, false, false] rfl rfl (any_of HT_.out (by kernel_rfl)) (fun _ _ _ h => h) (Or.inl ⟨by rfl, ?_⟩) ?_ ?_
       rotate_left
       ·
        intro w'
        go_simp
        with_reducible rfl
       rotate_left
       ·
        simp only [Act.put, List.setIfInBounds_toArray, List.set_cons_zero, List.set_cons_succ, i64_w, i32_w]
        rfl
       refine pure_ (i := 6) (N := some 29) (v := ?_) (a' := ?_) #[true, true, true, true, true, true, true, false, true, false, false] rfl rfl (any_of HT_.out (by kernel_rfl)) (fun _ _ _ h => h) (Or.inl ⟨by rfl, ?_⟩) ?_ ?_
       rotate_left
       ·
        intro w'
        go_simp
        with_reducible rfl
       rotate_left
       ·
        simp only [Act.put, List.setIfInBounds_toArray, List.set_cons_zero, List.set_cons_succ, i64_w, i32_w]
        rfl
       refine pure_ (i := 7) (N := some 30) (v := ?_) (a' := ?_) #[true, true, true, true, true, true, true, true, true, false, false] rfl rfl (any_of HT_.out (by kernel_rfl)) (fun _ _ _ h => h) (Or.inl ⟨by rfl, ?_⟩) ?_ ?_
       rotate_left
       ·
        intro w'
        go_simp
        with_reducible rfl
       rotate_left
       ·
        simp only [Act.put, List.setIfInBounds_toArray, List.set_cons_zero, List.set_cons_succ, i64_w, i32_w]
        rfl
       exact norm_ (by simp only [putAll, Act.put, List.setIfInBounds_toArray, List.set_cons_zero, List.set_cons_succ]) (hCont (v176, .slice Ao28 t178.length co28, v182, v185, gb188) _ ⟨hHeld, (RX (Kd.R_mono HO170.out (fun _ hk => ⟨hk.1.1.1.1, ⟨hk.1.1.1.2, ⟨hk.1.1.2, ⟨hk.1.2, hk.2⟩⟩⟩⟩))), (RX (Kd.R_mono HO173.out (fun _ hk => ⟨hk.1.1.1.1, ⟨hk.1.1.1.2, ⟨hk.1.1.2, ⟨hk.1.2, hk.2⟩⟩⟩⟩))), (RX (Kd.R_mono HO177.out (fun _ hk => ⟨hk.1.1.1.2, ⟨hk.1.1.2, ⟨hk.1.1.1.1, ⟨hk.1.2, hk.2⟩⟩⟩⟩))), (RX (Kd.R_mono HO180.out (fun _ hk => ⟨hk.1.1.1.2, ⟨hk.1.1.2, ⟨hk.1.1.1.1, ⟨hk.1.2, hk.2⟩⟩⟩⟩))), (RX (Kd.R_mono HO183.out (fun _ hk => ⟨hk.1.1.1.2, ⟨hk.1.1.2, ⟨hk.1.2, ⟨hk.2, hk.1.1.1.1⟩⟩⟩⟩))), (RX (Kd.R_mono HO186.out (fun _ hk => ⟨hk.1.1.1.2, ⟨hk.1.1.2, ⟨hk.1.2, ⟨hk.2, hk.1.1.1.1⟩⟩⟩⟩))), (BW BK174), (BW BK188), GW188.out, GE188.out, NB174_188.out, NB188_174.out, (SW HB)⟩)
     rintro ⟨v176, v179, v182, v185, gb188⟩ w30 ⟨hS_, h0_, h1_, h2_, h3_, h4_, h5_, h6_, h7_, h8_, h9_, h10_, h11_, h12_⟩
     have n0_ : Aside0 (Kd.R (Kd.int .i64) 3 w30 w.heap.size (fun k_ => some k_ ≠ (.slice Ao23 t171.length co23 : Value).ownBlock ∧ some k_ ≠ (v176 : Value).ownBlock ∧ some k_ ≠ (v179 : Value).ownBlock ∧ some k_ ≠ (v182 : Value).ownBlock ∧ some k_ ≠ (v185 : Value).ownBlock) (.slice Ao21 t168.length co21) t168) := ⟨h0_⟩
     have n1_ : Aside0 (Kd.R (Kd.int .i64) 3 w30 w.heap.size (fun k_ => some k_ ≠ (.slice Ao21 t168.length co21 : Value).ownBlock ∧ some k_ ≠ (v176 : Value).ownBlock ∧ some k_ ≠ (v179 : Value).ownBlock ∧ some k_ ≠ (v182 : Value).ownBlock ∧ some k_ ≠ (v185 : Value).ownBlock) (.slice Ao23 t171.length co23) t171) := ⟨h1_⟩
     have n2_ : Aside0 (Kd.R (Kd.int .i64) 3 w30 w.heap.size (fun k_ => some k_ ≠ (.slice Ao21 t168.length co21 : Value).ownBlock ∧ some k_ ≠ (.slice Ao23 t171.length co23 : Value).ownBlock ∧ some k_ ≠ (v179 : Value).ownBlock ∧ some k_ ≠ (v182 : Value).ownBlock ∧ some k_ ≠ (v185 : Value).ownBlock) v176 t175) := ⟨h2_⟩
     have n3_ : Aside0 (Kd.R (Kd.int .i64) 3 w30 w.heap.size (fun k_ => some k_ ≠ (.slice Ao21 t168.length co21 : Value).ownBlock ∧ some k_ ≠ (.slice Ao23 t171.length co23 : Value).ownBlock ∧ some k_ ≠ (v176 : Value).ownBlock ∧ some k_ ≠ (v182 : Value).ownBlock ∧ some k_ ≠ (v185 : Value).ownBlock) v179 t178) := ⟨h3_⟩
     have n4_ : Aside0 (Kd.R (Kd.int .i64) 3 w30 w.heap.size (fun k_ => some k_ ≠ (.slice Ao21 t168.length co21 : Value).ownBlock ∧ some k_ ≠ (.slice Ao23 t171.length co23 : Value).ownBlock ∧ some k_ ≠ (v176 : Value).ownBlock ∧ some k_ ≠ (v179 : Value).ownBlock ∧ some k_ ≠ (v185 : Value).ownBlock) v182 t181) := ⟨h4_⟩
     have n5_ : Aside0 (Kd.R (Kd.int .i64) 3 w30 w.heap.size (fun k_ => some k_ ≠ (.slice Ao21 t168.length co21 : Value).ownBlock ∧ some k_ ≠ (.slice Ao23 t171.length co23 : Value).ownBlock ∧ some k_ ≠ (v176 : Value).ownBlock ∧ some k_ ≠ (v179 : Value).ownBlock ∧ some k_ ≠ (v182 : Value).ownBlock) v185 t184) := ⟨h5_⟩
     have n6_ : Aside0 (w30.heap[gb174]? = some (.cells #[.slice Ao21 t168.length co21, .slice Ao23 t171.length co23] 42 (0, 0))) := ⟨h6_⟩
     have n7_ : Aside0 (w30.heap[gb188]? = some (.cells #[.slice none 0 0, .slice none 0 0] 42 (0, 0))) := ⟨h7_⟩
     have n8_ : Aside0 (w.heap.size ≤ gb188) := ⟨h8_⟩
     have n9_ : Aside0 (w.heap.size ≤ gb188) := ⟨h9_⟩
     have n10_ : Aside0 (gb174 ≠ gb188) := ⟨h10_⟩
     have n11_ : Aside0 (gb188 ≠ gb174) := ⟨h11_⟩
     have n12_ : Aside0 (Below w.heap.size w w30) := ⟨h12_⟩
     clear HO170
     clear HO173
     clear BK174
     clear HB
     clear h0_ h1_ h2_ h3_ h4_ h5_ h6_ h7_ h8_ h9_ h10_ h11_ h12_
     have HO170 := n0_
     have HO173 := n1_
     have HO177 := n2_
     have HO180 := n3_
     have HO183 := n4_
     have HO186 := n5_
     have BK174 := n6_
     have BK188 := n7_
     have GW188 := n8_
     have GE188 := n9_
     have NB174_188 := n10_
     have NB188_174 := n11_
     have HB := n12_
     clear n0_ n1_ n2_ n3_ n4_ n5_ n6_ n7_ n8_ n9_ n10_ n11_ n12_
     have hHeld : w30.cell? ⟨gb174, 0, none⟩ = some (.slice Ao21 t168.length co21) ∧ w30.cell? ⟨gb174, 1, none⟩ = some (.slice Ao23 t171.length co23) := hS_
     obtain ⟨Ao31, co31, eo31⟩ := Kd.R_slice HO183.out
     (first | subst eo31 | (injection eo31 with f1_ f2_ f3_; have f4_ := f1_.symm; have f5_ := f3_.symm; clear f1_ f2_ f3_; subst f4_; subst f5_))
     obtain ⟨Ao33, co33, eo33⟩ := Kd.R_slice HO186.out
     (first | subst eo33 | (injection eo33 with f1_ f2_ f3_; have f4_ := f1_.symm; have f5_ := f3_.symm; clear f1_ f2_ f3_; subst f4_; subst f5_))
     refine norm_ (a' := ?_) ?_ ?_
     rotate_left
     ·
      simp only [putAll, Act.put, List.setIfInBounds_toArray, List.set_cons_zero, List.set_cons_succ]
      rfl
     refine one_ (i := 9) (N := none) #[true, true, true, true, true, true, true, true, true, true, false] rfl rfl (one_of HT_.out (by kernel_rfl)) (by decide) (fun K hK => ?_)
     have hs32 : w30.cell? ⟨gb188, 0, none⟩ = some (.slice none 0 0) := (blk_cell BK188.out 0).trans rfl
     have hfs32 := blk_frozen BK188.out 0
     have hns32_0 := NB174_188.out
     have hms32_0 := NB188_174.out
     have hs34 : w30.cell? ⟨gb188, 1, none⟩ = some (.slice none 0 0) := (blk_cell BK188.out 1).trans rfl
     have hfs34 := blk_frozen BK188.out 1
     have hns34_0 := NB174_188.out
     have hms34_0 := NB188_174.out
     refine skip_ (w1 := ?_) (by rfl) rfl ?_ ?_
     rotate_left
     ·
      go_simp
      rfl
     refine hK.out _ _ ⟨((cell_far (p := ⟨gb188, _, none⟩) NB174_188.out _).trans (((cell_far (p := ⟨gb188, _, none⟩) NB174_188.out _).trans (hHeld.1)))), ((cell_far (p := ⟨gb188, _, none⟩) NB174_188.out _).trans (((cell_far (p := ⟨gb188, _, none⟩) NB174_188.out _).trans (hHeld.2))))⟩ (fun hHeld => ?_)
     clear hK K
     refine pure_ (i := 10) (N := some 11) (v := ?_) (a' := ?_) #[true, true, true, true, true, true, true, true, true, true, true] rfl rfl (any_of HT_.out (by kernel_rfl)) (fun _ _ _ h => h) (Or.inl ⟨by rfl, ?_⟩) ?_ ?_
     rotate_left
     ·
      intro w'
      go_simp
      with_reducible rfl
     rotate_left
     ·
      simp only [Act.put, List.setIfInBounds_toArray, List.set_cons_zero, List.set_cons_succ, i64_w, i32_w]
      rfl
     refine done_ (done_of HT_.out (by kernel_rfl)) ?_
     have hnb35 := NB188_174.out
     have hnc35 := NB174_188.out
     have hcz36_0 := C0 BK188
     have hcz36_1 := C1 BK188
     have hfz36_0 := blk_frozen BK188.out 0
     have hfz36_1 := blk_frozen BK188.out 1
     try go_wp2_with (first | ((with_reducible refine gate_callee (f := 31) rfl ?_); refine goesL_ (some 43) rfl rfl Try.func31 (by kernel_rfl) rfl #[.agg #[.slice Ao31 t181.length co31, .slice Ao33 t184.length co33]] rfl (by (try simp only [List.map_toArray, List.map_cons, List.map_nil]); first | done | rfl | (simp only [List.length_drop, List.length_take]; rfl)) ?_; (with_reducible refine (conf_Leave.calls _ _ t181 _ _ t184 t196 t199 t202 _ ?side1 ?side2 ?side3 ?side4 A11.out).mono ?_); (case side1 => refine (Kd.R_reads' (e := 3) (base := w.heap.size) (ok := fun k_ => (some k_ ≠ (.slice Ao21 t168.length co21 : Value).ownBlock ∧ (some k_ ≠ (.slice Ao23 t171.length co23 : Value).ownBlock ∧ (some k_ ≠ (v176 : Value).ownBlock ∧ (some k_ ≠ (v179 : Value).ownBlock ∧ some k_ ≠ (.slice Ao33 t184.length co33 : Value).ownBlock))))) (n := t181.length) (c := co31) ?_).2.2; exact (RX ((Kd.R_mono (Kd.R_far (p := ⟨gb188, 1, none⟩) (Kd.R_far (p := ⟨gb188, 0, none⟩) (Kd.R_types HO183.out BK188.out (by decide)) (fun _ hk => hk.2) (.slice Ao31 t181.length co31)) (fun _ hk => hk.2) (.slice Ao33 t184.length co33)) (fun _ h_ => h_.1))))); (case side2 => exact RL HO183); (case side3 => refine (Kd.R_reads' (e := 3) (base := w.heap.size) (ok := fun k_ => (some k_ ≠ (.slice Ao21 t168.length co21 : Value).ownBlock ∧ (some k_ ≠ (.slice Ao23 t171.length co23 : Value).ownBlock ∧ (some k_ ≠ (v176 : Value).ownBlock ∧ (some k_ ≠ (v179 : Value).ownBlock ∧ some k_ ≠ (.slice Ao31 t181.length co31 : Value).ownBlock))))) (n := t184.length) (c := co33) ?_).2.2; exact (RX ((Kd.R_mono (Kd.R_far (p := ⟨gb188, 1, none⟩) (Kd.R_far (p := ⟨gb188, 0, none⟩) (Kd.R_types HO186.out BK188.out (by decide)) (fun _ hk => hk.2) (.slice Ao31 t181.length co31)) (fun _ hk => hk.2) (.slice Ao33 t184.length co33)) (fun _ h_ => h_.1))))); (case side4 => exact RL HO186); rintro e w37 ⟨v197, v200, rfl, ho0, ho1, hb⟩; refine ⟨_, rfl, ?_⟩; have n0_ := Aside0.mk (Kd.R_mono (Kd.R_told (Kd.R_told (Kd.R_old (RX ((Kd.R_mono (Kd.R_far (p := ⟨gb188, 1, none⟩) (Kd.R_far (p := ⟨gb188, 0, none⟩) (Kd.R_types HO170.out BK188.out (by decide)) (fun _ hk => hk.2) (.slice Ao31 t181.length co31)) (fun _ hk => hk.2) (.slice Ao33 t184.length co33)) (fun _ h_ => h_.1)))) hb) (Kd.R_base ho0)) (Kd.R_base ho1)) (fun _ h_ => h_.1)); have n1_ := Aside0.mk (Kd.R_mono (Kd.R_told (Kd.R_told (Kd.R_old (RX ((Kd.R_mono (Kd.R_far (p := ⟨gb188, 1, none⟩) (Kd.R_far (p := ⟨gb188, 0, none⟩) (Kd.R_types HO173.out BK188.out (by decide)) (fun _ hk => hk.2) (.slice Ao31 t181.length co31)) (fun _ hk => hk.2) (.slice Ao33 t184.length co33)) (fun _ h_ => h_.1)))) hb) (Kd.R_base ho0)) (Kd.R_base ho1)) (fun _ h_ => h_.1)); have n2_ := Aside0.mk (Kd.R_mono (Kd.R_told (Kd.R_told (Kd.R_old (RX ((Kd.R_mono (Kd.R_far (p := ⟨gb188, 1, none⟩) (Kd.R_far (p := ⟨gb188, 0, none⟩) (Kd.R_types HO177.out BK188.out (by decide)) (fun _ hk => hk.2) (.slice Ao31 t181.length co31)) (fun _ hk => hk.2) (.slice Ao33 t184.length co33)) (fun _ h_ => h_.1)))) hb) (Kd.R_base ho0)) (Kd.R_base ho1)) (fun _ h_ => h_.1)); have n3_ := Aside0.mk (Kd.R_mono (Kd.R_told (Kd.R_told (Kd.R_old (RX ((Kd.R_mono (Kd.R_far (p := ⟨gb188, 1, none⟩) (Kd.R_far (p := ⟨gb188, 0, none⟩) (Kd.R_types HO180.out BK188.out (by decide)) (fun _ hk => hk.2) (.slice Ao31 t181.length co31)) (fun _ hk => hk.2) (.slice Ao33 t184.length co33)) (fun _ h_ => h_.1)))) hb) (Kd.R_base ho0)) (Kd.R_base ho1)) (fun _ h_ => h_.1)); have n4_ := Aside0.mk (Kd.R_mono (Kd.R_told (Kd.R_told (Kd.R_old (RX ((Kd.R_mono (Kd.R_far (p := ⟨gb188, 1, none⟩) (Kd.R_far (p := ⟨gb188, 0, none⟩) (Kd.R_types HO183.out BK188.out (by decide)) (fun _ hk => hk.2) (.slice Ao31 t181.length co31)) (fun _ hk => hk.2) (.slice Ao33 t184.length co33)) (fun _ h_ => h_.1)))) hb) (Kd.R_base ho0)) (Kd.R_base ho1)) (fun _ h_ => h_.1)); have n5_ := Aside0.mk (Kd.R_mono (Kd.R_told (Kd.R_told (Kd.R_old (RX ((Kd.R_mono (Kd.R_far (p := ⟨gb188, 1, none⟩) (Kd.R_far (p := ⟨gb188, 0, none⟩) (Kd.R_types HO186.out BK188.out (by decide)) (fun _ hk => hk.2) (.slice Ao31 t181.length co31)) (fun _ hk => hk.2) (.slice Ao33 t184.length co33)) (fun _ h_ => h_.1)))) hb) (Kd.R_base ho0)) (Kd.R_base ho1)) (fun _ h_ => h_.1)); have n6_ := Aside0.mk (Kd.R_lower (Kd.R_new' (Kd.R_new' (Kd.R_new' (Kd.R_new' (Kd.R_new' (Kd.R_new' ho0 (Kd.R_lt (RX ((Kd.R_mono (Kd.R_far (p := ⟨gb188, 1, none⟩) (Kd.R_far (p := ⟨gb188, 0, none⟩) (Kd.R_types HO170.out BK188.out (by decide)) (fun _ hk => hk.2) (.slice Ao31 t181.length co31)) (fun _ hk => hk.2) (.slice Ao33 t184.length co33)) (fun _ h_ => h_.1)))))) (Kd.R_lt (RX ((Kd.R_mono (Kd.R_far (p := ⟨gb188, 1, none⟩) (Kd.R_far (p := ⟨gb188, 0, none⟩) (Kd.R_types HO173.out BK188.out (by decide)) (fun _ hk => hk.2) (.slice Ao31 t181.length co31)) (fun _ hk => hk.2) (.slice Ao33 t184.length co33)) (fun _ h_ => h_.1)))))) (Kd.R_lt (RX ((Kd.R_mono (Kd.R_far (p := ⟨gb188, 1, none⟩) (Kd.R_far (p := ⟨gb188, 0, none⟩) (Kd.R_types HO177.out BK188.out (by decide)) (fun _ hk => hk.2) (.slice Ao31 t181.length co31)) (fun _ hk => hk.2) (.slice Ao33 t184.length co33)) (fun _ h_ => h_.1)))))) (Kd.R_lt (RX ((Kd.R_mono (Kd.R_far (p := ⟨gb188, 1, none⟩) (Kd.R_far (p := ⟨gb188, 0, none⟩) (Kd.R_types HO180.out BK188.out (by decide)) (fun _ hk => hk.2) (.slice Ao31 t181.length co31)) (fun _ hk => hk.2) (.slice Ao33 t184.length co33)) (fun _ h_ => h_.1)))))) (Kd.R_lt (RX ((Kd.R_mono (Kd.R_far (p := ⟨gb188, 1, none⟩) (Kd.R_far (p := ⟨gb188, 0, none⟩) (Kd.R_types HO183.out BK188.out (by decide)) (fun _ hk => hk.2) (.slice Ao31 t181.length co31)) (fun _ hk => hk.2) (.slice Ao33 t184.length co33)) (fun _ h_ => h_.1)))))) (Kd.R_lt (RX ((Kd.R_mono (Kd.R_far (p := ⟨gb188, 1, none⟩) (Kd.R_far (p := ⟨gb188, 0, none⟩) (Kd.R_types HO186.out BK188.out (by decide)) (fun _ hk => hk.2) (.slice Ao31 t181.length co31)) (fun _ hk => hk.2) (.slice Ao33 t184.length co33)) (fun _ h_ => h_.1)))))) (below_size (SW HB))); have n7_ := Aside0.mk (Kd.R_lower (Kd.R_new' (Kd.R_new' (Kd.R_new' (Kd.R_new' (Kd.R_new' (Kd.R_new' ho1 (Kd.R_lt (RX ((Kd.R_mono (Kd.R_far (p := ⟨gb188, 1, none⟩) (Kd.R_far (p := ⟨gb188, 0, none⟩) (Kd.R_types HO170.out BK188.out (by decide)) (fun _ hk => hk.2) (.slice Ao31 t181.length co31)) (fun _ hk => hk.2) (.slice Ao33 t184.length co33)) (fun _ h_ => h_.1)))))) (Kd.R_lt (RX ((Kd.R_mono (Kd.R_far (p := ⟨gb188, 1, none⟩) (Kd.R_far (p := ⟨gb188, 0, none⟩) (Kd.R_types HO173.out BK188.out (by decide)) (fun _ hk => hk.2) (.slice Ao31 t181.length co31)) (fun _ hk => hk.2) (.slice Ao33 t184.length co33)) (fun _ h_ => h_.1)))))) (Kd.R_lt (RX ((Kd.R_mono (Kd.R_far (p := ⟨gb188, 1, none⟩) (Kd.R_far (p := ⟨gb188, 0, none⟩) (Kd.R_types HO177.out BK188.out (by decide)) (fun _ hk => hk.2) (.slice Ao31 t181.length co31)) (fun _ hk => hk.2) (.slice Ao33 t184.length co33)) (fun _ h_ => h_.1)))))) (Kd.R_lt (RX ((Kd.R_mono (Kd.R_far (p := ⟨gb188, 1, none⟩) (Kd.R_far (p := ⟨gb188, 0, none⟩) (Kd.R_types HO180.out BK188.out (by decide)) (fun _ hk => hk.2) (.slice Ao31 t181.length co31)) (fun _ hk => hk.2) (.slice Ao33 t184.length co33)) (fun _ h_ => h_.1)))))) (Kd.R_lt (RX ((Kd.R_mono (Kd.R_far (p := ⟨gb188, 1, none⟩) (Kd.R_far (p := ⟨gb188, 0, none⟩) (Kd.R_types HO183.out BK188.out (by decide)) (fun _ hk => hk.2) (.slice Ao31 t181.length co31)) (fun _ hk => hk.2) (.slice Ao33 t184.length co33)) (fun _ h_ => h_.1)))))) (Kd.R_lt (RX ((Kd.R_mono (Kd.R_far (p := ⟨gb188, 1, none⟩) (Kd.R_far (p := ⟨gb188, 0, none⟩) (Kd.R_types HO186.out BK188.out (by decide)) (fun _ hk => hk.2) (.slice Ao31 t181.length co31)) (fun _ hk => hk.2) (.slice Ao33 t184.length co33)) (fun _ h_ => h_.1)))))) (below_size (SW HB))); have n8_ := Aside0.mk (blk_below (g := gb174) (o := .cells #[.slice Ao21 t168.length co21, .slice Ao23 t171.length co23] 42 (0, 0)) (by (with_reducible repeat (first | refine blk_drewN ?_ _ | refine blk_drew ?_ | refine blk_alloc ?_ _)); refine blk_far ?_ NB174_188.out _; (with_reducible repeat (first | refine blk_drewN ?_ _ | refine blk_drew ?_ | refine blk_alloc ?_ _)); refine blk_far ?_ NB174_188.out _; (with_reducible repeat (first | refine blk_drewN ?_ _ | refine blk_drew ?_ | refine blk_alloc ?_ _)); exact BK174.out) hb); have n9_ := Aside0.mk (blk_below (g := gb188) (o := .cells #[.slice Ao31 t181.length co31, .slice Ao33 t184.length co33] 42 (0, 0)) (by (with_reducible repeat (first | refine blk_drewN ?_ _ | refine blk_drew ?_ | refine blk_alloc ?_ _)); refine blk_put (cs := #[.slice Ao31 t181.length co31, .slice none 0 0]) ?_ 1 _ rfl; (with_reducible repeat (first | refine blk_drewN ?_ _ | refine blk_drew ?_ | refine blk_alloc ?_ _)); refine blk_put (cs := #[.slice none 0 0, .slice none 0 0]) ?_ 0 _ rfl; (with_reducible repeat (first | refine blk_drewN ?_ _ | refine blk_drew ?_ | refine blk_alloc ?_ _)); exact BK188.out) hb); have n10_ := SB HB hb; clear HO170; clear HO173; clear HO177; clear HO180; clear HO183; clear HO186; clear BK174; clear BK188; clear HB; have HO170 := n0_; have HO173 := n1_; have HO177 := n2_; have HO180 := n3_; have HO183 := n4_; have HO186 := n5_; have HO198 := n6_; have HO201 := n7_; have BK174 := n8_; have BK188 := n9_; have HB := n10_; clear n0_ n1_ n2_ n3_ n4_ n5_ n6_ n7_ n8_ n9_ n10_; (try clear hb); (try clear hk); (try clear ho0); (try clear ho1)) | ((with_reducible refine gate_dst (N := 12) rfl ?_); refine box_event ?hg (N := 12) ?hd (cs := #[.slice none 0 0, .slice none 0 0]) (t := 42) ?hr ?_; (case hd => rfl); (case hg => rfl); (case hr => first | (go_simp; done) | (go_simp; rfl)); intro gb203 hg w38 hbox hb; have n0_ := RB HO170 hb; have n1_ := RB HO173 hb; have n2_ := RB HO177 hb; have n3_ := RB HO180 hb; have n4_ := RB HO183 hb; have n5_ := RB HO186 hb; have n6_ := RB HO198 hb; have n7_ := RB HO201 hb; have n8_ := BB BK174 hb; have n9_ := BB BK188 hb; have n10_ := SB HB hb; have n11_ := Aside0.mk (hbox); have n12_ := Aside0.mk ((by rw [hg]; exact (below_size (SW HB)) : w.heap.size ≤ gb203)); have n13_ := Aside0.mk ((by rw [hg]; exact (below_size (SW HB)) : w.heap.size ≤ gb203)); have n14_ := Aside0.mk ((by rw [hg]; exact Nat.ne_of_lt (blk_lt (g := gb174) (o := .cells #[.slice Ao21 t168.length co21, .slice Ao23 t171.length co23] 42 (0, 0)) (BW BK174)) : gb174 ≠ gb203)); have n15_ := Aside0.mk ((by rw [hg]; exact Nat.ne_of_gt (blk_lt (g := gb174) (o := .cells #[.slice Ao21 t168.length co21, .slice Ao23 t171.length co23] 42 (0, 0)) (BW BK174)) : gb203 ≠ gb174)); have n16_ := Aside0.mk ((by rw [hg]; exact Nat.ne_of_lt (blk_lt (g := gb188) (o := .cells #[.slice Ao31 t181.length co31, .slice Ao33 t184.length co33] 42 (0, 0)) (BW BK188)) : gb188 ≠ gb203)); have n17_ := Aside0.mk ((by rw [hg]; exact Nat.ne_of_gt (blk_lt (g := gb188) (o := .cells #[.slice Ao31 t181.length co31, .slice Ao33 t184.length co33] 42 (0, 0)) (BW BK188)) : gb203 ≠ gb188)); clear HO170; clear HO173; clear HO177; clear HO180; clear HO183; clear HO186; clear HO198; clear HO201; clear BK174; clear BK188; clear HB; have HO170 := n0_; have HO173 := n1_; have HO177 := n2_; have HO180 := n3_; have HO183 := n4_; have HO186 := n5_; have HO198 := n6_; have HO201 := n7_; have BK174 := n8_; have BK188 := n9_; have HB := n10_; have BK203 := n11_; have GW203 := n12_; have GE203 := n13_; have NB174_203 := n14_; have NB203_174 := n15_; have NB188_203 := n16_; have NB203_188 := n17_; clear n0_ n1_ n2_ n3_ n4_ n5_ n6_ n7_ n8_ n9_ n10_ n11_ n12_ n13_ n14_ n15_ n16_ n17_; clear hb hbox hg; obtain ⟨Ao39, co39, eo39⟩ := Kd.R_slice HO198.out; subst eo39; have hnb40 := NB203_174.out; have hnc40 := NB174_203.out; have hnb41 := NB203_188.out; have hnc41 := NB188_203.out; have hcz42_0 := C0 BK203; have hcz42_1 := C1 BK203; have hfz42_0 := blk_frozen BK203.out 0; have hfz42_1 := blk_frozen BK203.out 1; obtain ⟨Ao43, co43, eo43⟩ := Kd.R_slice HO201.out; subst eo43))
     have n0_ : Aside0 (Kd.R (Kd.int .i64) 3 ((w38.setCell ⟨gb203, 0, none⟩ (.slice Ao39 t196.length co39)).setCell ⟨gb203, 1, none⟩ (.slice Ao43 t199.length co43)) w.heap.size (fun k_ => some k_ ≠ (.slice Ao23 t171.length co23 : Value).ownBlock ∧ some k_ ≠ (v176 : Value).ownBlock ∧ some k_ ≠ (v179 : Value).ownBlock ∧ some k_ ≠ (.slice Ao31 t181.length co31 : Value).ownBlock ∧ some k_ ≠ (.slice Ao33 t184.length co33 : Value).ownBlock ∧ some k_ ≠ (.slice Ao39 t196.length co39 : Value).ownBlock ∧ some k_ ≠ (.slice Ao43 t199.length co43 : Value).ownBlock) (.slice Ao21 t168.length co21) t168) := ⟨RX (Kd.R_mono (Kd.R_far (p := ⟨gb203, 1, none⟩) (Kd.R_far (p := ⟨gb203, 0, none⟩) (Kd.R_types HO170.out BK203.out (by decide)) (fun _ hk => hk.2) (.slice Ao39 t196.length co39)) (fun _ hk => hk.2) (.slice Ao43 t199.length co43)) (fun _ hk => ⟨hk.1.1.1.1, ⟨hk.1.1.1.2.1, ⟨hk.1.1.1.2.2.1, ⟨hk.1.1.1.2.2.2.1, ⟨hk.1.1.1.2.2.2.2, ⟨hk.1.1.2, hk.1.2⟩⟩⟩⟩⟩⟩))⟩
     have n1_ : Aside0 (Kd.R (Kd.int .i64) 3 ((w38.setCell ⟨gb203, 0, none⟩ (.slice Ao39 t196.length co39)).setCell ⟨gb203, 1, none⟩ (.slice Ao43 t199.length co43)) w.heap.size (fun k_ => some k_ ≠ (.slice Ao21 t168.length co21 : Value).ownBlock ∧ some k_ ≠ (v176 : Value).ownBlock ∧ some k_ ≠ (v179 : Value).ownBlock ∧ some k_ ≠ (.slice Ao31 t181.length co31 : Value).ownBlock ∧ some k_ ≠ (.slice Ao33 t184.length co33 : Value).ownBlock ∧ some k_ ≠ (.slice Ao39 t196.length co39 : Value).ownBlock ∧ some k_ ≠ (.slice Ao43 t199.length co43 : Value).ownBlock) (.slice Ao23 t171.length co23) t171) := ⟨RX (Kd.R_mono (Kd.R_far (p := ⟨gb203, 1, none⟩) (Kd.R_far (p := ⟨gb203, 0, none⟩) (Kd.R_types HO173.out BK203.out (by decide)) (fun _ hk => hk.2) (.slice Ao39 t196.length co39)) (fun _ hk => hk.2) (.slice Ao43 t199.length co43)) (fun _ hk => ⟨hk.1.1.1.1, ⟨hk.1.1.1.2.1, ⟨hk.1.1.1.2.2.1, ⟨hk.1.1.1.2.2.2.1, ⟨hk.1.1.1.2.2.2.2, ⟨hk.1.1.2, hk.1.2⟩⟩⟩⟩⟩⟩))⟩
     have n2_ : Aside0 (Kd.R (Kd.int .i64) 3 ((w38.setCell ⟨gb203, 0, none⟩ (.slice Ao39 t196.length co39)).setCell ⟨gb203, 1, none⟩ (.slice Ao43 t199.length co43)) w.heap.size (fun k_ => some k_ ≠ (.slice Ao21 t168.length co21 : Value).ownBlock ∧ some k_ ≠ (.slice Ao23 t171.length co23 : Value).ownBlock ∧ some k_ ≠ (v179 : Value).ownBlock ∧ some k_ ≠ (.slice Ao31 t181.length co31 : Value).ownBlock ∧ some k_ ≠ (.slice Ao33 t184.length co33 : Value).ownBlock ∧ some k_ ≠ (.slice Ao39 t196.length co39 : Value).ownBlock ∧ some k_ ≠ (.slice Ao43 t199.length co43 : Value).ownBlock) v176 t175) := ⟨RX (Kd.R_mono (Kd.R_far (p := ⟨gb203, 1, none⟩) (Kd.R_far (p := ⟨gb203, 0, none⟩) (Kd.R_types HO177.out BK203.out (by decide)) (fun _ hk => hk.2) (.slice Ao39 t196.length co39)) (fun _ hk => hk.2) (.slice Ao43 t199.length co43)) (fun _ hk => ⟨hk.1.1.1.1, ⟨hk.1.1.1.2.1, ⟨hk.1.1.1.2.2.1, ⟨hk.1.1.1.2.2.2.1, ⟨hk.1.1.1.2.2.2.2, ⟨hk.1.1.2, hk.1.2⟩⟩⟩⟩⟩⟩))⟩
     have n3_ : Aside0 (Kd.R (Kd.int .i64) 3 ((w38.setCell ⟨gb203, 0, none⟩ (.slice Ao39 t196.length co39)).setCell ⟨gb203, 1, none⟩ (.slice Ao43 t199.length co43)) w.heap.size (fun k_ => some k_ ≠ (.slice Ao21 t168.length co21 : Value).ownBlock ∧ some k_ ≠ (.slice Ao23 t171.length co23 : Value).ownBlock ∧ some k_ ≠ (v176 : Value).ownBlock ∧ some k_ ≠ (.slice Ao31 t181.length co31 : Value).ownBlock ∧ some k_ ≠ (.slice Ao33 t184.length co33 : Value).ownBlock ∧ some k_ ≠ (.slice Ao39 t196.length co39 : Value).ownBlock ∧ some k_ ≠ (.slice Ao43 t199.length co43 : Value).ownBlock) v179 t178) := ⟨RX (Kd.R_mono (Kd.R_far (p := ⟨gb203, 1, none⟩) (Kd.R_far (p := ⟨gb203, 0, none⟩) (Kd.R_types HO180.out BK203.out (by decide)) (fun _ hk => hk.2) (.slice Ao39 t196.length co39)) (fun _ hk => hk.2) (.slice Ao43 t199.length co43)) (fun _ hk => ⟨hk.1.1.1.1, ⟨hk.1.1.1.2.1, ⟨hk.1.1.1.2.2.1, ⟨hk.1.1.1.2.2.2.1, ⟨hk.1.1.1.2.2.2.2, ⟨hk.1.1.2, hk.1.2⟩⟩⟩⟩⟩⟩))⟩
     have n4_ : Aside0 (Kd.R (Kd.int .i64) 3 ((w38.setCell ⟨gb203, 0, none⟩ (.slice Ao39 t196.length co39)).setCell ⟨gb203, 1, none⟩ (.slice Ao43 t199.length co43)) w.heap.size (fun k_ => some k_ ≠ (.slice Ao21 t168.length co21 : Value).ownBlock ∧ some k_ ≠ (.slice Ao23 t171.length co23 : Value).ownBlock ∧ some k_ ≠ (v176 : Value).ownBlock ∧ some k_ ≠ (v179 : Value).ownBlock ∧ some k_ ≠ (.slice Ao33 t184.length co33 : Value).ownBlock ∧ some k_ ≠ (.slice Ao39 t196.length co39 : Value).ownBlock ∧ some k_ ≠ (.slice Ao43 t199.length co43 : Value).ownBlock) (.slice Ao31 t181.length co31) t181) := ⟨RX (Kd.R_mono (Kd.R_far (p := ⟨gb203, 1, none⟩) (Kd.R_far (p := ⟨gb203, 0, none⟩) (Kd.R_types HO183.out BK203.out (by decide)) (fun _ hk => hk.2) (.slice Ao39 t196.length co39)) (fun _ hk => hk.2) (.slice Ao43 t199.length co43)) (fun _ hk => ⟨hk.1.1.1.1, ⟨hk.1.1.1.2.1, ⟨hk.1.1.1.2.2.1, ⟨hk.1.1.1.2.2.2.1, ⟨hk.1.1.1.2.2.2.2, ⟨hk.1.1.2, hk.1.2⟩⟩⟩⟩⟩⟩))⟩
     have n5_ : Aside0 (Kd.R (Kd.int .i64) 3 ((w38.setCell ⟨gb203, 0, none⟩ (.slice Ao39 t196.length co39)).setCell ⟨gb203, 1, none⟩ (.slice Ao43 t199.length co43)) w.heap.size (fun k_ => some k_ ≠ (.slice Ao21 t168.length co21 : Value).ownBlock ∧ some k_ ≠ (.slice Ao23 t171.length co23 : Value).ownBlock ∧ some k_ ≠ (v176 : Value).ownBlock ∧ some k_ ≠ (v179 : Value).ownBlock ∧ some k_ ≠ (.slice Ao31 t181.length co31 : Value).ownBlock ∧ some k_ ≠ (.slice Ao39 t196.length co39 : Value).ownBlock ∧ some k_ ≠ (.slice Ao43 t199.length co43 : Value).ownBlock) (.slice Ao33 t184.length co33) t184) := ⟨RX (Kd.R_mono (Kd.R_far (p := ⟨gb203, 1, none⟩) (Kd.R_far (p := ⟨gb203, 0, none⟩) (Kd.R_types HO186.out BK203.out (by decide)) (fun _ hk => hk.2) (.slice Ao39 t196.length co39)) (fun _ hk => hk.2) (.slice Ao43 t199.length co43)) (fun _ hk => ⟨hk.1.1.1.1, ⟨hk.1.1.1.2.1, ⟨hk.1.1.1.2.2.1, ⟨hk.1.1.1.2.2.2.1, ⟨hk.1.1.1.2.2.2.2, ⟨hk.1.1.2, hk.1.2⟩⟩⟩⟩⟩⟩))⟩
     have n6_ : Aside0 (Kd.R (Kd.int .i64) 3 ((w38.setCell ⟨gb203, 0, none⟩ (.slice Ao39 t196.length co39)).setCell ⟨gb203, 1, none⟩ (.slice Ao43 t199.length co43)) w.heap.size (fun k_ => some k_ ≠ (.slice Ao21 t168.length co21 : Value).ownBlock ∧ some k_ ≠ (.slice Ao23 t171.length co23 : Value).ownBlock ∧ some k_ ≠ (v176 : Value).ownBlock ∧ some k_ ≠ (v179 : Value).ownBlock ∧ some k_ ≠ (.slice Ao31 t181.length co31 : Value).ownBlock ∧ some k_ ≠ (.slice Ao33 t184.length co33 : Value).ownBlock ∧ some k_ ≠ (.slice Ao43 t199.length co43 : Value).ownBlock) (.slice Ao39 t196.length co39) t196) := ⟨RX (Kd.R_mono (Kd.R_far (p := ⟨gb203, 1, none⟩) (Kd.R_far (p := ⟨gb203, 0, none⟩) (Kd.R_types HO198.out BK203.out (by decide)) (fun _ hk => hk.2) (.slice Ao39 t196.length co39)) (fun _ hk => hk.2) (.slice Ao43 t199.length co43)) (fun _ hk => ⟨hk.1.1.1.1.1.1.2, ⟨hk.1.1.1.1.1.2, ⟨hk.1.1.1.1.2, ⟨hk.1.1.1.2, ⟨hk.1.1.2, ⟨hk.1.2, hk.1.1.1.1.1.1.1⟩⟩⟩⟩⟩⟩))⟩
     have n7_ : Aside0 (Kd.R (Kd.int .i64) 3 ((w38.setCell ⟨gb203, 0, none⟩ (.slice Ao39 t196.length co39)).setCell ⟨gb203, 1, none⟩ (.slice Ao43 t199.length co43)) w.heap.size (fun k_ => some k_ ≠ (.slice Ao21 t168.length co21 : Value).ownBlock ∧ some k_ ≠ (.slice Ao23 t171.length co23 : Value).ownBlock ∧ some k_ ≠ (v176 : Value).ownBlock ∧ some k_ ≠ (v179 : Value).ownBlock ∧ some k_ ≠ (.slice Ao31 t181.length co31 : Value).ownBlock ∧ some k_ ≠ (.slice Ao33 t184.length co33 : Value).ownBlock ∧ some k_ ≠ (.slice Ao39 t196.length co39 : Value).ownBlock) (.slice Ao43 t199.length co43) t199) := ⟨RX (Kd.R_mono (Kd.R_far (p := ⟨gb203, 1, none⟩) (Kd.R_far (p := ⟨gb203, 0, none⟩) (Kd.R_types HO201.out BK203.out (by decide)) (fun _ hk => hk.2) (.slice Ao39 t196.length co39)) (fun _ hk => hk.2) (.slice Ao43 t199.length co43)) (fun _ hk => ⟨hk.1.1.1.1.1.1.2, ⟨hk.1.1.1.1.1.2, ⟨hk.1.1.1.1.2, ⟨hk.1.1.1.2, ⟨hk.1.1.2, ⟨hk.1.2, hk.1.1.1.1.1.1.1⟩⟩⟩⟩⟩⟩))⟩
     have n8_ : Aside0 (((w38.setCell ⟨gb203, 0, none⟩ (.slice Ao39 t196.length co39)).setCell ⟨gb203, 1, none⟩ (.slice Ao43 t199.length co43)).heap[gb174]? = some (.cells #[.slice Ao21 t168.length co21, .slice Ao23 t171.length co23] 42 (0, 0))) := ⟨by (with_reducible repeat (first | refine blk_drewN ?_ _ | refine blk_drew ?_ | refine blk_alloc ?_ _)); refine blk_far ?_ NB174_203.out _; (with_reducible repeat (first | refine blk_drewN ?_ _ | refine blk_drew ?_ | refine blk_alloc ?_ _)); refine blk_far ?_ NB174_203.out _; (with_reducible repeat (first | refine blk_drewN ?_ _ | refine blk_drew ?_ | refine blk_alloc ?_ _)); exact BK174.out⟩
     have n9_ : Aside0 (((w38.setCell ⟨gb203, 0, none⟩ (.slice Ao39 t196.length co39)).setCell ⟨gb203, 1, none⟩ (.slice Ao43 t199.length co43)).heap[gb188]? = some (.cells #[.slice Ao31 t181.length co31, .slice Ao33 t184.length co33] 42 (0, 0))) := ⟨by (with_reducible repeat (first | refine blk_drewN ?_ _ | refine blk_drew ?_ | refine blk_alloc ?_ _)); refine blk_far ?_ NB188_203.out _; (with_reducible repeat (first | refine blk_drewN ?_ _ | refine blk_drew ?_ | refine blk_alloc ?_ _)); refine blk_far ?_ NB188_203.out _; (with_reducible repeat (first | refine blk_drewN ?_ _ | refine blk_drew ?_ | refine blk_alloc ?_ _)); exact BK188.out⟩
     have n10_ : Aside0 (((w38.setCell ⟨gb203, 0, none⟩ (.slice Ao39 t196.length co39)).setCell ⟨gb203, 1, none⟩ (.slice Ao43 t199.length co43)).heap[gb203]? = some (.cells #[.slice Ao39 t196.length co39, .slice Ao43 t199.length co43] 42 (0, 0))) := ⟨by (with_reducible repeat (first | refine blk_drewN ?_ _ | refine blk_drew ?_ | refine blk_alloc ?_ _)); refine blk_put (cs := #[.slice Ao39 t196.length co39, .slice none 0 0]) ?_ 1 _ rfl; (with_reducible repeat (first | refine blk_drewN ?_ _ | refine blk_drew ?_ | refine blk_alloc ?_ _)); refine blk_put (cs := #[.slice none 0 0, .slice none 0 0]) ?_ 0 _ rfl; (with_reducible repeat (first | refine blk_drewN ?_ _ | refine blk_drew ?_ | refine blk_alloc ?_ _)); exact BK203.out⟩
     have n11_ : Aside0 (Below w.heap.size w ((w38.setCell ⟨gb203, 0, none⟩ (.slice Ao39 t196.length co39)).setCell ⟨gb203, 1, none⟩ (.slice Ao43 t199.length co43))) := ⟨SW HB⟩
     (try clear HO170)
     (try clear HO173)
     (try clear HO177)
     (try clear HO180)
     (try clear HO183)
     (try clear HO186)
     (try clear HO198)
     (try clear HO201)
     (try clear BK174)
     (try clear BK188)
     (try clear BK203)
     (try clear HB)
     generalize ((w38.setCell ⟨gb203, 0, none⟩ (.slice Ao39 t196.length co39)).setCell ⟨gb203, 1, none⟩ (.slice Ao43 t199.length co43)) = w44 at n0_ n1_ n2_ n3_ n4_ n5_ n6_ n7_ n8_ n9_ n10_ n11_ ⊢
     have HO170 := n0_
     have HO173 := n1_
     have HO177 := n2_
     have HO180 := n3_
     have HO183 := n4_
     have HO186 := n5_
     have HO198 := n6_
     have HO201 := n7_
     have BK174 := n8_
     have BK188 := n9_
     have BK203 := n10_
     have HB := n11_
     clear n0_ n1_ n2_ n3_ n4_ n5_ n6_ n7_ n8_ n9_ n10_ n11_
     have n0_ := Aside0.mk (Kd.R_drew HO170.out)
     have n1_ := Aside0.mk (Kd.R_drew HO173.out)
     have n2_ := Aside0.mk (Kd.R_drew HO177.out)
     have n3_ := Aside0.mk (Kd.R_drew HO180.out)
     have n4_ := Aside0.mk (Kd.R_drew HO183.out)
     have n5_ := Aside0.mk (Kd.R_drew HO186.out)
     have n6_ := Aside0.mk (Kd.R_drew HO198.out)
     have n7_ := Aside0.mk (Kd.R_drew HO201.out)
     have n8_ := Aside0.mk (blk_drew BK174.out)
     have n9_ := Aside0.mk (blk_drew BK188.out)
     have n10_ := Aside0.mk (blk_drew BK203.out)
     have n11_ := Aside0.mk (below_drew1 HB.out)
     clear HO170
     clear HO173
     clear HO177
     clear HO180
     clear HO183
     clear HO186
     clear HO198
     clear HO201
     clear BK174
     clear BK188
     clear BK203
     clear HB
     have HO170 := n0_
     have HO173 := n1_
     have HO177 := n2_
     have HO180 := n3_
     have HO183 := n4_
     have HO186 := n5_
     have HO198 := n6_
     have HO201 := n7_
     have BK174 := n8_
     have BK188 := n9_
     have BK203 := n10_
     have HB := n11_
     clear n0_ n1_ n2_ n3_ n4_ n5_ n6_ n7_ n8_ n9_ n10_ n11_
     refine start_ (n := 9) (S := fun w' => w'.cell? ⟨gb203, 0, none⟩ = some (.slice Ao39 t196.length co39) ∧ w'.cell? ⟨gb203, 1, none⟩ = some (.slice Ao43 t199.length co43)) (ds := []) #[false, false, false, false, false, false, false, false, false] (by kernel_rfl) rfl rfl ⟨(blk_cell BK203.out 0).trans rfl, (blk_cell BK203.out 1).trans rfl⟩ (fun hHeld => ?_); refine with_tabW synodallaw8_ConfMeet.tab8 synodallaw8_ConfMeet.bits8 (fun HT_ HW_ => ?_)
     generalize w44.drew = w45 at HO170 HO173 HO177 HO180 HO183 HO186 HO198 HO201 BK174 BK188 BK203 HB hHeld ⊢
     refine pure_ (i := 0) (N := some 46) (v := ?_) (a' := ?_) #[true, false, false, false, false, false, false, false, false] rfl rfl (any_of HT_.out (by kernel_rfl)) (fun _ _ _ h => h) (Or.inl ⟨by rfl, ?_⟩) ?_ ?_
     rotate_left
     ·
      intro w'
      go_simp
      with_reducible rfl
     rotate_left
     ·
      simp only [Act.put, List.setIfInBounds_toArray, List.set_cons_zero, List.set_cons_succ, i64_w, i32_w]
      rfl
     refine pure_ (i := 1) (N := some 47) (v := ?_) (a' := ?_) #[true, true, false, false, false, false, false, false, false] rfl rfl (any_of HT_.out (by kernel_rfl)) (fun _ _ _ h => h) (Or.inl ⟨by rfl, ?_⟩) ?_ ?_
     rotate_left
     ·
      intro w'
      go_simp
      with_reducible rfl
     rotate_left
     ·
      simp only [Act.put, List.setIfInBounds_toArray, List.set_cons_zero, List.set_cons_succ, i64_w, i32_w]
      rfl
     refine pure_ (i := 2) (N := some 48) (v := ?_) (a' := ?_) #[true, true, true, false, false, false, false, false, false] rfl rfl (any_of HT_.out (by kernel_rfl)) (fun _ _ _ h => h) (Or.inl ⟨by rfl, ?_⟩) ?_ ?_
     rotate_left
     ·
      intro w'
      go_simp
      with_reducible rfl
     rotate_left
     ·
      simp only [Act.put, List.setIfInBounds_toArray, List.set_cons_zero, List.set_cons_succ, i64_w, i32_w]
      rfl
     refine pure_ (i := 4) (N := some 50) (v := ?_) (a' := ?_) #[true, true, true, false, true, false, false, false, false] rfl rfl (any_of HT_.out (by kernel_rfl)) (fun _ _ _ h => h) (Or.inl ⟨by rfl, ?_⟩) ?_ ?_
     rotate_left
     ·
      intro w'
      go_simp
      with_reducible rfl
     rotate_left
     ·
      simp only [Act.put, List.setIfInBounds_toArray, List.set_cons_zero, List.set_cons_succ, i64_w, i32_w]
      rfl
     refine take_ (i := 3) (N := some 49) (v := ?_) (a' := ?_) #[true, true, true, true, true, false, false, false, false] rfl rfl (take_ofW HT_.out HW_.out (by kernel_rfl)) (fun _ _ _ h => h) (Or.inl ⟨by rfl, ?_⟩) hHeld ?_ ?_
     rotate_left
     ·
      rintro w' ⟨s0, s1⟩
      go_simp
      with_reducible rfl
     rotate_left
     ·
      simp only [Act.put, List.setIfInBounds_toArray, List.set_cons_zero, List.set_cons_succ, i64_w, i32_w]
      rfl
     refine one_ (i := 5) (N := some 51) #[true, true, true, true, true, true, false, false, false] rfl rfl (one_of HT_.out (by kernel_rfl)) (by decide) (fun K hK => ?_)
     refine goes_ Try.func21 (by kernel_rfl) rfl #[.int .i64 a1] (by rfl) rfl rfl (by (try simp only [List.map_toArray, List.map_cons, List.map_nil]); first | done | rfl | (simp only [List.length_drop, List.length_take]; rfl)) ?_
     with_reducible refine (synodallaw8_Plain.calls k a1 t204 t207 _ A13.out).mono ?_
     rintro e w46 ⟨v205, v208, rfl, ho0, ho1, hb⟩
     refine ⟨_, rfl, ?_⟩
     have n0_ := Aside0.mk (Kd.R_mono (Kd.R_told (Kd.R_told (Kd.R_old (RW HO170) hb) (Kd.R_base ho0)) (Kd.R_base ho1)) (fun _ h_ => h_.1))
     have n1_ := Aside0.mk (Kd.R_mono (Kd.R_told (Kd.R_told (Kd.R_old (RW HO173) hb) (Kd.R_base ho0)) (Kd.R_base ho1)) (fun _ h_ => h_.1))
     have n2_ := Aside0.mk (Kd.R_mono (Kd.R_told (Kd.R_told (Kd.R_old (RW HO177) hb) (Kd.R_base ho0)) (Kd.R_base ho1)) (fun _ h_ => h_.1))
     have n3_ := Aside0.mk (Kd.R_mono (Kd.R_told (Kd.R_told (Kd.R_old (RW HO180) hb) (Kd.R_base ho0)) (Kd.R_base ho1)) (fun _ h_ => h_.1))
     have n4_ := Aside0.mk (Kd.R_mono (Kd.R_told (Kd.R_told (Kd.R_old (RW HO183) hb) (Kd.R_base ho0)) (Kd.R_base ho1)) (fun _ h_ => h_.1))
     have n5_ := Aside0.mk (Kd.R_mono (Kd.R_told (Kd.R_told (Kd.R_old (RW HO186) hb) (Kd.R_base ho0)) (Kd.R_base ho1)) (fun _ h_ => h_.1))
     have n6_ := Aside0.mk (Kd.R_mono (Kd.R_told (Kd.R_told (Kd.R_old (RW HO198) hb) (Kd.R_base ho0)) (Kd.R_base ho1)) (fun _ h_ => h_.1))
     have n7_ := Aside0.mk (Kd.R_mono (Kd.R_told (Kd.R_told (Kd.R_old (RW HO201) hb) (Kd.R_base ho0)) (Kd.R_base ho1)) (fun _ h_ => h_.1))
     have n8_ := Aside0.mk (Kd.R_lower (Kd.R_new' (Kd.R_new' (Kd.R_new' (Kd.R_new' (Kd.R_new' (Kd.R_new' (Kd.R_new' (Kd.R_new' ho0 (Kd.R_lt (RW HO170))) (Kd.R_lt (RW HO173))) (Kd.R_lt (RW HO177))) (Kd.R_lt (RW HO180))) (Kd.R_lt (RW HO183))) (Kd.R_lt (RW HO186))) (Kd.R_lt (RW HO198))) (Kd.R_lt (RW HO201))) (below_size (SW HB)))
     have n9_ := Aside0.mk (Kd.R_lower (Kd.R_new' (Kd.R_new' (Kd.R_new' (Kd.R_new' (Kd.R_new' (Kd.R_new' (Kd.R_new' (Kd.R_new' ho1 (Kd.R_lt (RW HO170))) (Kd.R_lt (RW HO173))) (Kd.R_lt (RW HO177))) (Kd.R_lt (RW HO180))) (Kd.R_lt (RW HO183))) (Kd.R_lt (RW HO186))) (Kd.R_lt (RW HO198))) (Kd.R_lt (RW HO201))) (below_size (SW HB)))
     have n10_ := BB BK174 hb
     have n11_ := BB BK188 hb
     have n12_ := BB BK203 hb
     have n13_ := SB HB hb
     clear HO170
     clear HO173
     clear HO177
     clear HO180
     clear HO183
     clear HO186
     clear HO198
     clear HO201
     clear BK174
     clear BK188
     clear BK203
     clear HB
     have HO170 := n0_
     have HO173 := n1_
     have HO177 := n2_
     have HO180 := n3_
     have HO183 := n4_
     have HO186 := n5_
     have HO198 := n6_
     have HO201 := n7_
     have HO206 := n8_
     have HO209 := n9_
     have BK174 := n10_
     have BK188 := n11_
     have BK203 := n12_
     have HB := n13_
     clear n0_ n1_ n2_ n3_ n4_ n5_ n6_ n7_ n8_ n9_ n10_ n11_ n12_ n13_
     (try clear hb)
     (try clear hb2)
     (try clear hk)
     (try clear hi)
     (try clear ho0)
     (try clear ho1)
     obtain ⟨Ao47, co47, eo47⟩ := Kd.R_slice HO206.out
     (first | subst eo47 | (injection eo47 with f1_ f2_ f3_; have f4_ := f1_.symm; have f5_ := f3_.symm; clear f1_ f2_ f3_; subst f4_; subst f5_))
     obtain ⟨Ao48, co48, eo48⟩ := Kd.R_slice HO209.out
     (first | subst eo48 | (injection eo48 with f1_ f2_ f3_; have f4_ := f1_.symm; have f5_ := f3_.symm; clear f1_ f2_ f3_; subst f4_; subst f5_))
     refine hK.out _ _ ⟨(blk_cell BK203.out 0).trans rfl, (blk_cell BK203.out 1).trans rfl⟩ (fun hHeld => ?_)
     clear hK K
     refine norm_ (a' := ?_) ?_ ?_
     rotate_left
     ·
      show Act.put _ (some 51) _ = _
      simp only [Act.put, List.setIfInBounds_toArray, List.set_cons_zero, List.set_cons_succ, i64_w, i32_w]
      rfl
     refine one_ (i := 6) (N := some 52) #[true, true, true, true, true, true, true, false, false] rfl rfl (one_of HT_.out (by kernel_rfl)) (by decide) (fun K hK => ?_)
     refine goes_ Try.func33 (by kernel_rfl) rfl #[.agg #[.slice Ao39 t196.length co39, .slice Ao43 t199.length co43], .agg #[.slice Ao47 t204.length co47, .slice Ao48 t207.length co48]] (by rfl) rfl rfl (by (try simp only [List.map_toArray, List.map_cons, List.map_nil]); first | done | rfl | (simp only [List.length_drop, List.length_take]; rfl)) ?_
     with_reducible refine (conf_Same.calls k _ _ t196 _ _ t199 _ _ t204 _ _ t207 true _ ?side1 ?side2 ?side3 ?side4 ?side5 ?side6 ?side7 ?side8 A14.out).mono ?_
     (case side1 => exact RC HO198)
     (case side2 => exact RL HO198)
     (case side3 => exact RC HO201)
     (case side4 => exact RL HO201)
     (case side5 => exact RC HO206)
     (case side6 => exact RL HO206)
     (case side7 => exact RC HO209)
     (case side8 => exact RL HO209)
     rintro e w49 ⟨rfl, hb⟩
     refine ⟨_, rfl, ?_⟩
     have n0_ := RB HO170 hb
     have n1_ := RB HO173 hb
     have n2_ := RB HO177 hb
     have n3_ := RB HO180 hb
     have n4_ := RB HO183 hb
     have n5_ := RB HO186 hb
     have n6_ := RB HO198 hb
     have n7_ := RB HO201 hb
     have n8_ := RB HO206 hb
     have n9_ := RB HO209 hb
     have n10_ := BB BK174 hb
     have n11_ := BB BK188 hb
     have n12_ := BB BK203 hb
     have n13_ := SB HB hb
     clear HO170
     clear HO173
     clear HO177
     clear HO180
     clear HO183
     clear HO186
     clear HO198
     clear HO201
     clear HO206
     clear HO209
     clear BK174
     clear BK188
     clear BK203
     clear HB
     have HO170 := n0_
     have HO173 := n1_
     have HO177 := n2_
     have HO180 := n3_
     have HO183 := n4_
     have HO186 := n5_
     have HO198 := n6_
     have HO201 := n7_
     have HO206 := n8_
     have HO209 := n9_
     have BK174 := n10_
     have BK188 := n11_
     have BK203 := n12_
     have HB := n13_
     clear n0_ n1_ n2_ n3_ n4_ n5_ n6_ n7_ n8_ n9_ n10_ n11_ n12_ n13_
     (try clear hb)
     (try clear hb2)
     (try clear hk)
     (try clear hi)
     refine hK.out _ _ ⟨(blk_cell BK203.out 0).trans rfl, (blk_cell BK203.out 1).trans rfl⟩ (fun hHeld => ?_)
     clear hK K
     refine norm_ (a' := ?_) ?_ ?_
     rotate_left
     ·
      show Act.put _ (some 52) _ = _
      simp only [Act.put, List.setIfInBounds_toArray, List.set_cons_zero, List.set_cons_succ, i64_w, i32_w]
      rfl
     refine pure_ (i := 7) (N := some 53) (v := ?_) (a' := ?_) #[true, true, true, true, true, true, true, true, false] rfl rfl (any_of HT_.out (by kernel_rfl)) (fun _ _ _ h => h) (Or.inl ⟨by rfl, ?_⟩) ?_ ?_
     rotate_left
     ·
      intro w'
      go_simp
      with_reducible rfl
     rotate_left
     ·
      simp only [Act.put, List.setIfInBounds_toArray, List.set_cons_zero, List.set_cons_succ, i64_w, i32_w]
      rfl
     refine pure_ (i := 8) (N := some 54) (v := ?_) (a' := ?_) #[true, true, true, true, true, true, true, true, true] rfl rfl (any_of HT_.out (by kernel_rfl)) (fun _ _ _ h => h) (Or.inl ⟨by rfl, ?_⟩) ?_ ?_
     rotate_left
     ·
      intro w'
      go_simp
      with_reducible rfl
     rotate_left
     ·
      simp only [Act.put, List.setIfInBounds_toArray, List.set_cons_zero, List.set_cons_succ, i64_w, i32_w]
      rfl
     refine done_ (done_of HT_.out (by kernel_rfl)) ?_
     try go_wp2_with (first | ((with_reducible refine gate_callee (f := 34) rfl ?_); refine goesL_ (some 56) rfl rfl Try.func34 (by kernel_rfl) rfl #[.int .i64 a2] rfl (by (try simp only [List.map_toArray, List.map_cons, List.map_nil]); first | done | rfl | (simp only [List.length_drop, List.length_take]; rfl)) ?_; (with_reducible refine (synodallaw8_all.calls k a2 t211 _ A16.out).mono ?_); rintro e w50 ⟨v212, rfl, ho0, hb⟩; refine ⟨_, rfl, ?_⟩; have n0_ := Aside0.mk (Kd.R_elder' (RW HO170) (Kd.R_base ho0) hb); have n1_ := Aside0.mk (Kd.R_elder' (RW HO173) (Kd.R_base ho0) hb); have n2_ := Aside0.mk (Kd.R_elder' (RW HO177) (Kd.R_base ho0) hb); have n3_ := Aside0.mk (Kd.R_elder' (RW HO180) (Kd.R_base ho0) hb); have n4_ := Aside0.mk (Kd.R_elder' (RW HO183) (Kd.R_base ho0) hb); have n5_ := Aside0.mk (Kd.R_elder' (RW HO186) (Kd.R_base ho0) hb); have n6_ := Aside0.mk (Kd.R_elder' (RW HO198) (Kd.R_base ho0) hb); have n7_ := Aside0.mk (Kd.R_elder' (RW HO201) (Kd.R_base ho0) hb); have n8_ := Aside0.mk (Kd.R_elder' (RW HO206) (Kd.R_base ho0) hb); have n9_ := Aside0.mk (Kd.R_elder' (RW HO209) (Kd.R_base ho0) hb); have n10_ := Aside0.mk (Kd.R_lower (Kd.R_new' (Kd.R_new' (Kd.R_new' (Kd.R_new' (Kd.R_new' (Kd.R_new' (Kd.R_new' (Kd.R_new' (Kd.R_new' (Kd.R_new' ho0 (Kd.R_lt (RW HO170))) (Kd.R_lt (RW HO173))) (Kd.R_lt (RW HO177))) (Kd.R_lt (RW HO180))) (Kd.R_lt (RW HO183))) (Kd.R_lt (RW HO186))) (Kd.R_lt (RW HO198))) (Kd.R_lt (RW HO201))) (Kd.R_lt (RW HO206))) (Kd.R_lt (RW HO209))) (below_size (SW HB))); have n11_ := BB BK174 hb; have n12_ := BB BK188 hb; have n13_ := BB BK203 hb; have n14_ := SB HB hb; clear HO170; clear HO173; clear HO177; clear HO180; clear HO183; clear HO186; clear HO198; clear HO201; clear HO206; clear HO209; clear BK174; clear BK188; clear BK203; clear HB; have HO170 := n0_; have HO173 := n1_; have HO177 := n2_; have HO180 := n3_; have HO183 := n4_; have HO186 := n5_; have HO198 := n6_; have HO201 := n7_; have HO206 := n8_; have HO209 := n9_; have HO213 := n10_; have BK174 := n11_; have BK188 := n12_; have BK203 := n13_; have HB := n14_; clear n0_ n1_ n2_ n3_ n4_ n5_ n6_ n7_ n8_ n9_ n10_ n11_ n12_ n13_ n14_; (try clear hb); (try clear ho0)) | ((with_reducible refine gate_callee (f := 34) rfl ?_); refine goesL_ (some 58) rfl rfl Try.func34 (by kernel_rfl) rfl #[.int .i64 a3] rfl (by (try simp only [List.map_toArray, List.map_cons, List.map_nil]); first | done | rfl | (simp only [List.length_drop, List.length_take]; rfl)) ?_; (with_reducible refine (synodallaw8_all.calls k a3 t214 _ A17.out).mono ?_); rintro e w51 ⟨v215, rfl, ho0, hb⟩; refine ⟨_, rfl, ?_⟩; have n0_ := Aside0.mk (Kd.R_elder' (RW HO170) (Kd.R_base ho0) hb); have n1_ := Aside0.mk (Kd.R_elder' (RW HO173) (Kd.R_base ho0) hb); have n2_ := Aside0.mk (Kd.R_elder' (RW HO177) (Kd.R_base ho0) hb); have n3_ := Aside0.mk (Kd.R_elder' (RW HO180) (Kd.R_base ho0) hb); have n4_ := Aside0.mk (Kd.R_elder' (RW HO183) (Kd.R_base ho0) hb); have n5_ := Aside0.mk (Kd.R_elder' (RW HO186) (Kd.R_base ho0) hb); have n6_ := Aside0.mk (Kd.R_elder' (RW HO198) (Kd.R_base ho0) hb); have n7_ := Aside0.mk (Kd.R_elder' (RW HO201) (Kd.R_base ho0) hb); have n8_ := Aside0.mk (Kd.R_elder' (RW HO206) (Kd.R_base ho0) hb); have n9_ := Aside0.mk (Kd.R_elder' (RW HO209) (Kd.R_base ho0) hb); have n10_ := Aside0.mk (Kd.R_elder' (RW HO213) (Kd.R_base ho0) hb); have n11_ := Aside0.mk (Kd.R_lower (Kd.R_new' (Kd.R_new' (Kd.R_new' (Kd.R_new' (Kd.R_new' (Kd.R_new' (Kd.R_new' (Kd.R_new' (Kd.R_new' (Kd.R_new' (Kd.R_new' ho0 (Kd.R_lt (RW HO170))) (Kd.R_lt (RW HO173))) (Kd.R_lt (RW HO177))) (Kd.R_lt (RW HO180))) (Kd.R_lt (RW HO183))) (Kd.R_lt (RW HO186))) (Kd.R_lt (RW HO198))) (Kd.R_lt (RW HO201))) (Kd.R_lt (RW HO206))) (Kd.R_lt (RW HO209))) (Kd.R_lt (RW HO213))) (below_size (SW HB))); have n12_ := BB BK174 hb; have n13_ := BB BK188 hb; have n14_ := BB BK203 hb; have n15_ := SB HB hb; clear HO170; clear HO173; clear HO177; clear HO180; clear HO183; clear HO186; clear HO198; clear HO201; clear HO206; clear HO209; clear HO213; clear BK174; clear BK188; clear BK203; clear HB; have HO170 := n0_; have HO173 := n1_; have HO177 := n2_; have HO180 := n3_; have HO183 := n4_; have HO186 := n5_; have HO198 := n6_; have HO201 := n7_; have HO206 := n8_; have HO209 := n9_; have HO213 := n10_; have HO216 := n11_; have BK174 := n12_; have BK188 := n13_; have BK203 := n14_; have HB := n15_; clear n0_ n1_ n2_ n3_ n4_ n5_ n6_ n7_ n8_ n9_ n10_ n11_ n12_ n13_ n14_ n15_; (try clear hb); (try clear ho0)))
     go_loopg [16, 17] k (fun kq v16 v17 w' => ∃ (x16_1 : Bool) (x17_1 : Int), v16 = .bool x16_1 ∧ v17 = .int .i64 x17_1 ∧ Aside0 (synodallaw8_ConfMeet.l0 kq t211 t214 x16_1 x17_1 t168 t171 t181 t184 t196 t199 = some r) ∧ Aside0 (kq ≤ k) ∧ Aside0 (Kd.R (Kd.int .i64) 3 w' w.heap.size (fun k_ => some k_ ≠ (v215 : Value).ownBlock ∧ some k_ ≠ ((.slice Ao21 t168.length co21) : Value).ownBlock ∧ some k_ ≠ ((.slice Ao23 t171.length co23) : Value).ownBlock ∧ some k_ ≠ ((.slice Ao31 t181.length co31) : Value).ownBlock ∧ some k_ ≠ ((.slice Ao33 t184.length co33) : Value).ownBlock ∧ some k_ ≠ ((.slice Ao39 t196.length co39) : Value).ownBlock ∧ some k_ ≠ ((.slice Ao43 t199.length co43) : Value).ownBlock) v212 t211) ∧ Aside0 (Kd.R (Kd.int .i64) 3 w' w.heap.size (fun k_ => some k_ ≠ (v212 : Value).ownBlock ∧ some k_ ≠ ((.slice Ao21 t168.length co21) : Value).ownBlock ∧ some k_ ≠ ((.slice Ao23 t171.length co23) : Value).ownBlock ∧ some k_ ≠ ((.slice Ao31 t181.length co31) : Value).ownBlock ∧ some k_ ≠ ((.slice Ao33 t184.length co33) : Value).ownBlock ∧ some k_ ≠ ((.slice Ao39 t196.length co39) : Value).ownBlock ∧ some k_ ≠ ((.slice Ao43 t199.length co43) : Value).ownBlock) v215 t214) ∧ Aside0 (Kd.R (Kd.int .i64) 3 w' w.heap.size (fun k_ => some k_ ≠ (v212 : Value).ownBlock ∧ some k_ ≠ (v215 : Value).ownBlock ∧ some k_ ≠ ((.slice Ao23 t171.length co23) : Value).ownBlock ∧ some k_ ≠ ((.slice Ao31 t181.length co31) : Value).ownBlock ∧ some k_ ≠ ((.slice Ao33 t184.length co33) : Value).ownBlock ∧ some k_ ≠ ((.slice Ao39 t196.length co39) : Value).ownBlock ∧ some k_ ≠ ((.slice Ao43 t199.length co43) : Value).ownBlock) (.slice Ao21 t168.length co21) t168) ∧ Aside0 (Kd.R (Kd.int .i64) 3 w' w.heap.size (fun k_ => some k_ ≠ (v212 : Value).ownBlock ∧ some k_ ≠ (v215 : Value).ownBlock ∧ some k_ ≠ ((.slice Ao21 t168.length co21) : Value).ownBlock ∧ some k_ ≠ ((.slice Ao31 t181.length co31) : Value).ownBlock ∧ some k_ ≠ ((.slice Ao33 t184.length co33) : Value).ownBlock ∧ some k_ ≠ ((.slice Ao39 t196.length co39) : Value).ownBlock ∧ some k_ ≠ ((.slice Ao43 t199.length co43) : Value).ownBlock) (.slice Ao23 t171.length co23) t171) ∧ Aside0 (Kd.R (Kd.int .i64) 3 w' w.heap.size (fun k_ => some k_ ≠ (v212 : Value).ownBlock ∧ some k_ ≠ (v215 : Value).ownBlock ∧ some k_ ≠ ((.slice Ao21 t168.length co21) : Value).ownBlock ∧ some k_ ≠ ((.slice Ao23 t171.length co23) : Value).ownBlock ∧ some k_ ≠ ((.slice Ao33 t184.length co33) : Value).ownBlock ∧ some k_ ≠ ((.slice Ao39 t196.length co39) : Value).ownBlock ∧ some k_ ≠ ((.slice Ao43 t199.length co43) : Value).ownBlock) (.slice Ao31 t181.length co31) t181) ∧ Aside0 (Kd.R (Kd.int .i64) 3 w' w.heap.size (fun k_ => some k_ ≠ (v212 : Value).ownBlock ∧ some k_ ≠ (v215 : Value).ownBlock ∧ some k_ ≠ ((.slice Ao21 t168.length co21) : Value).ownBlock ∧ some k_ ≠ ((.slice Ao23 t171.length co23) : Value).ownBlock ∧ some k_ ≠ ((.slice Ao31 t181.length co31) : Value).ownBlock ∧ some k_ ≠ ((.slice Ao39 t196.length co39) : Value).ownBlock ∧ some k_ ≠ ((.slice Ao43 t199.length co43) : Value).ownBlock) (.slice Ao33 t184.length co33) t184) ∧ Aside0 (Kd.R (Kd.int .i64) 3 w' w.heap.size (fun k_ => some k_ ≠ (v212 : Value).ownBlock ∧ some k_ ≠ (v215 : Value).ownBlock ∧ some k_ ≠ ((.slice Ao21 t168.length co21) : Value).ownBlock ∧ some k_ ≠ ((.slice Ao23 t171.length co23) : Value).ownBlock ∧ some k_ ≠ ((.slice Ao31 t181.length co31) : Value).ownBlock ∧ some k_ ≠ ((.slice Ao33 t184.length co33) : Value).ownBlock ∧ some k_ ≠ ((.slice Ao43 t199.length co43) : Value).ownBlock) (.slice Ao39 t196.length co39) t196) ∧ Aside0 (Kd.R (Kd.int .i64) 3 w' w.heap.size (fun k_ => some k_ ≠ (v212 : Value).ownBlock ∧ some k_ ≠ (v215 : Value).ownBlock ∧ some k_ ≠ ((.slice Ao21 t168.length co21) : Value).ownBlock ∧ some k_ ≠ ((.slice Ao23 t171.length co23) : Value).ownBlock ∧ some k_ ≠ ((.slice Ao31 t181.length co31) : Value).ownBlock ∧ some k_ ≠ ((.slice Ao33 t184.length co33) : Value).ownBlock ∧ some k_ ≠ ((.slice Ao39 t196.length co39) : Value).ownBlock) (.slice Ao43 t199.length co43) t199) ∧ Aside0 (w'.heap[gb174]? = some (.cells #[(.slice Ao21 t168.length co21), (.slice Ao23 t171.length co23)] 42 (0, 0))) ∧ Aside0 (w'.heap[gb188]? = some (.cells #[(.slice Ao31 t181.length co31), (.slice Ao33 t184.length co33)] 42 (0, 0))) ∧ Aside0 (w'.heap[gb203]? = some (.cells #[(.slice Ao39 t196.length co39), (.slice Ao43 t199.length co43)] 42 (0, 0))) ∧ Aside0 (Below w.heap.size w w'))
     case atStart => exact ⟨(false), (0), (by first | rfl | (simp; done) | (simp [*]; done)), (by first | rfl | (simp; done) | (simp [*]; done)), H', ⟨Nat.le_refl _⟩, ⟨RX (Kd.R_mono HO213.out (fun _ hk => ⟨hk.2, ⟨hk.1.1.1.1.1.1.1.1.1.1.2, ⟨hk.1.1.1.1.1.1.1.1.1.2, ⟨hk.1.1.1.1.1.1.2, ⟨hk.1.1.1.1.1.2, ⟨hk.1.1.1.1.2, hk.1.1.1.2⟩⟩⟩⟩⟩⟩))⟩, ⟨RX (Kd.R_mono HO216.out (fun _ hk => ⟨hk.2, ⟨hk.1.1.1.1.1.1.1.1.1.1.2, ⟨hk.1.1.1.1.1.1.1.1.1.2, ⟨hk.1.1.1.1.1.1.2, ⟨hk.1.1.1.1.1.2, ⟨hk.1.1.1.1.2, hk.1.1.1.2⟩⟩⟩⟩⟩⟩))⟩, ⟨RX (Kd.R_mono HO170.out (fun _ hk => ⟨hk.1.2, ⟨hk.2, ⟨hk.1.1.1.1.1, ⟨hk.1.1.1.1.2.2.2.1, ⟨hk.1.1.1.1.2.2.2.2.1, ⟨hk.1.1.1.1.2.2.2.2.2.1, hk.1.1.1.1.2.2.2.2.2.2⟩⟩⟩⟩⟩⟩))⟩, ⟨RX (Kd.R_mono HO173.out (fun _ hk => ⟨hk.1.2, ⟨hk.2, ⟨hk.1.1.1.1.1, ⟨hk.1.1.1.1.2.2.2.1, ⟨hk.1.1.1.1.2.2.2.2.1, ⟨hk.1.1.1.1.2.2.2.2.2.1, hk.1.1.1.1.2.2.2.2.2.2⟩⟩⟩⟩⟩⟩))⟩, ⟨RX (Kd.R_mono HO183.out (fun _ hk => ⟨hk.1.2, ⟨hk.2, ⟨hk.1.1.1.1.1, ⟨hk.1.1.1.1.2.1, ⟨hk.1.1.1.1.2.2.2.2.1, ⟨hk.1.1.1.1.2.2.2.2.2.1, hk.1.1.1.1.2.2.2.2.2.2⟩⟩⟩⟩⟩⟩))⟩, ⟨RX (Kd.R_mono HO186.out (fun _ hk => ⟨hk.1.2, ⟨hk.2, ⟨hk.1.1.1.1.1, ⟨hk.1.1.1.1.2.1, ⟨hk.1.1.1.1.2.2.2.2.1, ⟨hk.1.1.1.1.2.2.2.2.2.1, hk.1.1.1.1.2.2.2.2.2.2⟩⟩⟩⟩⟩⟩))⟩, ⟨RX (Kd.R_mono HO198.out (fun _ hk => ⟨hk.1.2, ⟨hk.2, ⟨hk.1.1.1.1.1, ⟨hk.1.1.1.1.2.1, ⟨hk.1.1.1.1.2.2.2.2.1, ⟨hk.1.1.1.1.2.2.2.2.2.1, hk.1.1.1.1.2.2.2.2.2.2⟩⟩⟩⟩⟩⟩))⟩, ⟨RX (Kd.R_mono HO201.out (fun _ hk => ⟨hk.1.2, ⟨hk.2, ⟨hk.1.1.1.1.1, ⟨hk.1.1.1.1.2.1, ⟨hk.1.1.1.1.2.2.2.2.1, ⟨hk.1.1.1.1.2.2.2.2.2.1, hk.1.1.1.1.2.2.2.2.2.2⟩⟩⟩⟩⟩⟩))⟩, ⟨BW BK174⟩, ⟨BW BK188⟩, ⟨BW BK203⟩, ⟨SW HB⟩⟩
     case round =>
      clear H'
      try clear c2
      try clear p2
      try clear c3
      try clear c4
      try clear c21
      try clear c28
      try clear c31
      try clear c33
      try clear c34
      try clear c35
      try clear c40
      try clear c41
      try clear hcz36_0
      try clear hcz36_1
      try clear hcz42_0
      try clear hcz42_1
      try clear hfz36_0
      try clear hfz36_1
      try clear hfz42_0
      try clear hfz42_1
      obtain ⟨x16_1, x17_1, rfl, rfl, HA, HK1, HO_14, HO_15, Hq0, Hq1, Hq2, Hq3, Hq4, Hq5, BK174, BK188, BK203, HB⟩ := hrel
      cases gk with
      | zero => exact absurd HA.out (by simp [synodallaw8_ConfMeet.l0])
      | succ k1 =>
       have H := HA.out
       clear HA
       simp only [synodallaw8_ConfMeet.l0] at H
       by_cases c52 : x17_1 < (t211.length : Int)
       ·
        rw [if_pos c52] at H
        have c52b0 : decide (x17_1 < (t211.length : Int)) = true := decide_eq_true c52
        clear c52
        have H' := Aside0.mk H
        clear H
        obtain ⟨Ao53, co53, eo53⟩ := Kd.R_slice HO_14.out
        subst eo53
        go_wp2
        go_loopg [16, 18] k1 (fun kq v16 v18 w' => ∃ (x16_2 : Bool) (x18_2 : Int), v16 = .bool x16_2 ∧ v18 = .int .i64 x18_2 ∧ Aside0 (synodallaw8_ConfMeet.l1 kq t211 t214 x16_2 x17_1 x18_2 t168 t171 t181 t184 t196 t199 = some r) ∧ Aside0 (kq ≤ k1) ∧ Aside0 (Kd.R (Kd.int .i64) 3 w' w.heap.size (fun k_ => some k_ ≠ (v215 : Value).ownBlock ∧ some k_ ≠ ((.slice Ao21 t168.length co21) : Value).ownBlock ∧ some k_ ≠ ((.slice Ao23 t171.length co23) : Value).ownBlock ∧ some k_ ≠ ((.slice Ao31 t181.length co31) : Value).ownBlock ∧ some k_ ≠ ((.slice Ao33 t184.length co33) : Value).ownBlock ∧ some k_ ≠ ((.slice Ao39 t196.length co39) : Value).ownBlock ∧ some k_ ≠ ((.slice Ao43 t199.length co43) : Value).ownBlock) (.slice Ao53 t211.length co53) t211) ∧ Aside0 (Kd.R (Kd.int .i64) 3 w' w.heap.size (fun k_ => some k_ ≠ ((.slice Ao53 t211.length co53) : Value).ownBlock ∧ some k_ ≠ ((.slice Ao21 t168.length co21) : Value).ownBlock ∧ some k_ ≠ ((.slice Ao23 t171.length co23) : Value).ownBlock ∧ some k_ ≠ ((.slice Ao31 t181.length co31) : Value).ownBlock ∧ some k_ ≠ ((.slice Ao33 t184.length co33) : Value).ownBlock ∧ some k_ ≠ ((.slice Ao39 t196.length co39) : Value).ownBlock ∧ some k_ ≠ ((.slice Ao43 t199.length co43) : Value).ownBlock) v215 t214) ∧ Aside0 (Kd.R (Kd.int .i64) 3 w' w.heap.size (fun k_ => some k_ ≠ ((.slice Ao53 t211.length co53) : Value).ownBlock ∧ some k_ ≠ (v215 : Value).ownBlock ∧ some k_ ≠ ((.slice Ao23 t171.length co23) : Value).ownBlock ∧ some k_ ≠ ((.slice Ao31 t181.length co31) : Value).ownBlock ∧ some k_ ≠ ((.slice Ao33 t184.length co33) : Value).ownBlock ∧ some k_ ≠ ((.slice Ao39 t196.length co39) : Value).ownBlock ∧ some k_ ≠ ((.slice Ao43 t199.length co43) : Value).ownBlock) (.slice Ao21 t168.length co21) t168) ∧ Aside0 (Kd.R (Kd.int .i64) 3 w' w.heap.size (fun k_ => some k_ ≠ ((.slice Ao53 t211.length co53) : Value).ownBlock ∧ some k_ ≠ (v215 : Value).ownBlock ∧ some k_ ≠ ((.slice Ao21 t168.length co21) : Value).ownBlock ∧ some k_ ≠ ((.slice Ao31 t181.length co31) : Value).ownBlock ∧ some k_ ≠ ((.slice Ao33 t184.length co33) : Value).ownBlock ∧ some k_ ≠ ((.slice Ao39 t196.length co39) : Value).ownBlock ∧ some k_ ≠ ((.slice Ao43 t199.length co43) : Value).ownBlock) (.slice Ao23 t171.length co23) t171) ∧ Aside0 (Kd.R (Kd.int .i64) 3 w' w.heap.size (fun k_ => some k_ ≠ ((.slice Ao53 t211.length co53) : Value).ownBlock ∧ some k_ ≠ (v215 : Value).ownBlock ∧ some k_ ≠ ((.slice Ao21 t168.length co21) : Value).ownBlock ∧ some k_ ≠ ((.slice Ao23 t171.length co23) : Value).ownBlock ∧ some k_ ≠ ((.slice Ao33 t184.length co33) : Value).ownBlock ∧ some k_ ≠ ((.slice Ao39 t196.length co39) : Value).ownBlock ∧ some k_ ≠ ((.slice Ao43 t199.length co43) : Value).ownBlock) (.slice Ao31 t181.length co31) t181) ∧ Aside0 (Kd.R (Kd.int .i64) 3 w' w.heap.size (fun k_ => some k_ ≠ ((.slice Ao53 t211.length co53) : Value).ownBlock ∧ some k_ ≠ (v215 : Value).ownBlock ∧ some k_ ≠ ((.slice Ao21 t168.length co21) : Value).ownBlock ∧ some k_ ≠ ((.slice Ao23 t171.length co23) : Value).ownBlock ∧ some k_ ≠ ((.slice Ao31 t181.length co31) : Value).ownBlock ∧ some k_ ≠ ((.slice Ao39 t196.length co39) : Value).ownBlock ∧ some k_ ≠ ((.slice Ao43 t199.length co43) : Value).ownBlock) (.slice Ao33 t184.length co33) t184) ∧ Aside0 (Kd.R (Kd.int .i64) 3 w' w.heap.size (fun k_ => some k_ ≠ ((.slice Ao53 t211.length co53) : Value).ownBlock ∧ some k_ ≠ (v215 : Value).ownBlock ∧ some k_ ≠ ((.slice Ao21 t168.length co21) : Value).ownBlock ∧ some k_ ≠ ((.slice Ao23 t171.length co23) : Value).ownBlock ∧ some k_ ≠ ((.slice Ao31 t181.length co31) : Value).ownBlock ∧ some k_ ≠ ((.slice Ao33 t184.length co33) : Value).ownBlock ∧ some k_ ≠ ((.slice Ao43 t199.length co43) : Value).ownBlock) (.slice Ao39 t196.length co39) t196) ∧ Aside0 (Kd.R (Kd.int .i64) 3 w' w.heap.size (fun k_ => some k_ ≠ ((.slice Ao53 t211.length co53) : Value).ownBlock ∧ some k_ ≠ (v215 : Value).ownBlock ∧ some k_ ≠ ((.slice Ao21 t168.length co21) : Value).ownBlock ∧ some k_ ≠ ((.slice Ao23 t171.length co23) : Value).ownBlock ∧ some k_ ≠ ((.slice Ao31 t181.length co31) : Value).ownBlock ∧ some k_ ≠ ((.slice Ao33 t184.length co33) : Value).ownBlock ∧ some k_ ≠ ((.slice Ao39 t196.length co39) : Value).ownBlock) (.slice Ao43 t199.length co43) t199) ∧ Aside0 (w'.heap[gb174]? = some (.cells #[(.slice Ao21 t168.length co21), (.slice Ao23 t171.length co23)] 42 (0, 0))) ∧ Aside0 (w'.heap[gb188]? = some (.cells #[(.slice Ao31 t181.length co31), (.slice Ao33 t184.length co33)] 42 (0, 0))) ∧ Aside0 (w'.heap[gb203]? = some (.cells #[(.slice Ao39 t196.length co39), (.slice Ao43 t199.length co43)] 42 (0, 0))) ∧ Aside0 (Below w.heap.size w w'))
        case atStart => exact ⟨(x16_1), (0), (by first | rfl | (simp; done) | (simp [*]; done)), (by first | rfl | (simp; done) | (simp [*]; done)), H', ⟨Nat.le_refl _⟩, ⟨RX (HO_14.out)⟩, ⟨RX (HO_15.out)⟩, ⟨RX (Hq0.out)⟩, ⟨RX (Hq1.out)⟩, ⟨RX (Hq2.out)⟩, ⟨RX (Hq3.out)⟩, ⟨RX (Hq4.out)⟩, ⟨RX (Hq5.out)⟩, ⟨BW BK174⟩, ⟨BW BK188⟩, ⟨BW BK203⟩, ⟨SW HB⟩⟩
        case round =>
         clear H'
         try clear c2
         try clear p2
         try clear c3
         try clear c4
         try clear c5
         try clear c21
         try clear c28
         try clear c31
         try clear c33
         try clear c34
         try clear c35
         try clear c40
         try clear c41
         try clear c52
         try clear c52b0
         try clear hcz36_0
         try clear hcz36_1
         try clear hcz42_0
         try clear hcz42_1
         try clear hfz36_0
         try clear hfz36_1
         try clear hfz42_0
         try clear hfz42_1
         try clear p2
         obtain ⟨x16_2, x18_2, rfl, rfl, HA, HK2, HO_14, HO_15, Hq0, Hq1, Hq2, Hq3, Hq4, Hq5, BK174, BK188, BK203, HB⟩ := hrel
         cases gk with
         | zero => exact absurd HA.out (by simp [synodallaw8_ConfMeet.l1])
         | succ k2 =>
          have H := HA.out
          clear HA
          simp only [synodallaw8_ConfMeet.l1] at H
          by_cases c54 : x18_2 < (t214.length : Int)
          ·
           rw [if_pos c54] at H
           have c54b0 : decide (x18_2 < (t214.length : Int)) = true := decide_eq_true c54
           clear c54
           by_cases c55 : x16_2 = true
           ·
            subst c55
            have H1 : (synodallaw8_ConfMeet.l1 k2 t211 t214 true x17_1 (wrap64 (x18_2 + 1)) t168 t171 t181 t184 t196 t199) = some r := by rw [if_pos rfl] at H; exact H
            clear H
            have H := H1
            clear H1
            have H' := Aside0.mk H
            clear H
            obtain ⟨Ao56, co56, eo56⟩ := Kd.R_slice HO_15.out
            subst eo56
            try go_wp2
            have n0_ := Aside0.mk (Kd.R_drew HO_14.out)
            have n1_ := Aside0.mk (Kd.R_drew HO_15.out)
            have n2_ := Aside0.mk (Kd.R_drew Hq0.out)
            have n3_ := Aside0.mk (Kd.R_drew Hq1.out)
            have n4_ := Aside0.mk (Kd.R_drew Hq2.out)
            have n5_ := Aside0.mk (Kd.R_drew Hq3.out)
            have n6_ := Aside0.mk (Kd.R_drew Hq4.out)
            have n7_ := Aside0.mk (Kd.R_drew Hq5.out)
            have n8_ := Aside0.mk (blk_drew BK174.out)
            have n9_ := Aside0.mk (blk_drew BK188.out)
            have n10_ := Aside0.mk (blk_drew BK203.out)
            have n11_ := Aside0.mk (below_drew1 HB.out)
            clear HO_14
            clear HO_15
            clear Hq0
            clear Hq1
            clear Hq2
            clear Hq3
            clear Hq4
            clear Hq5
            clear BK174
            clear BK188
            clear BK203
            clear HB
            have HO_14 := n0_
            have HO_15 := n1_
            have Hq0 := n2_
            have Hq1 := n3_
            have Hq2 := n4_
            have Hq3 := n5_
            have Hq4 := n6_
            have Hq5 := n7_
            have BK174 := n8_
            have BK188 := n9_
            have BK203 := n10_
            have HB := n11_
            clear n0_ n1_ n2_ n3_ n4_ n5_ n6_ n7_ n8_ n9_ n10_ n11_
            refine start_ (n := 13) (S := fun w' => True) (ds := []) #[false, false, false, false, false, false, false, false, false, false, false, false, false] (by kernel_rfl) rfl rfl trivial (fun hHeld => ?_); refine with_tabW synodallaw8_ConfMeet.tab18 synodallaw8_ConfMeet.bits18 (fun HT_ HW_ => ?_)
            generalize wr.drew = w57 at HO_14 HO_15 Hq0 Hq1 Hq2 Hq3 Hq4 Hq5 BK174 BK188 BK203 HB hHeld ⊢
            refine pure_ (i := 0) (N := some 71) (v := ?_) (a' := ?_) #[true, false, false, false, false, false, false, false, false, false, false, false, false] rfl rfl (any_of HT_.out (by kernel_rfl)) (fun _ _ _ h => h) (Or.inl ⟨by rfl, ?_⟩) ?_ ?_
            rotate_left
            ·
             intro w'
             go_simp
             with_reducible rfl
            rotate_left
            ·
             simp only [Act.put, List.setIfInBounds_toArray, List.set_cons_zero, List.set_cons_succ, i64_w, i32_w]
             rfl
            refine pure_ (i := 1) (N := some 72) (v := ?_) (a' := ?_) #[true, true, false, false, false, false, false, false, false, false, false, false, false] rfl rfl (any_of HT_.out (by kernel_rfl)) (fun _ _ _ h => h) (Or.inl ⟨by rfl, ?_⟩) ?_ ?_
            rotate_left
            ·
             intro w'
             go_simp
             with_reducible rfl
            rotate_left
            ·
             simp only [Act.put, List.setIfInBounds_toArray, List.set_cons_zero, List.set_cons_succ, i64_w, i32_w]
             rfl
            refine pure_ (i := 2) (N := some 73) (v := undef) (a' := ?_) #[true, true, true, false, false, false, false, false, false, false, false, false, false] rfl rfl (any_of HT_.out (by kernel_rfl)) (fun _ _ _ h => h) (Or.inr ⟨by rfl, rfl⟩) ?_ ?_
            rotate_left
            ·
             simp only [Act.put, List.setIfInBounds_toArray, List.set_cons_zero, List.set_cons_succ, i64_w, i32_w]
             rfl
            refine pure_ (i := 3) (N := some 74) (v := undef) (a' := ?_) #[true, true, true, true, false, false, false, false, false, false, false, false, false] rfl rfl (any_of HT_.out (by kernel_rfl)) (fun _ _ _ h => h) (Or.inr ⟨by rfl, rfl⟩) ?_ ?_
            rotate_left
            ·
             simp only [Act.put, List.setIfInBounds_toArray, List.set_cons_zero, List.set_cons_succ, i64_w, i32_w]
             rfl
            refine pure_ (i := 4) (N := some 75) (v := undef) (a' := ?_) #[true, true, true, true, true, false, false, false, false, false, false, false, false] rfl rfl (any_of HT_.out (by kernel_rfl)) (fun _ _ _ h => h) (Or.inr ⟨by rfl, rfl⟩) ?_ ?_
            rotate_left
            ·
             simp only [Act.put, List.setIfInBounds_toArray, List.set_cons_zero, List.set_cons_succ, i64_w, i32_w]
             rfl
            refine pure_ (i := 5) (N := some 76) (v := undef) (a' := ?_) #[true, true, true, true, true, true, false, false, false, false, false, false, false] rfl rfl (any_of HT_.out (by kernel_rfl)) (fun _ _ _ h => h) (Or.inr ⟨by rfl, rfl⟩) ?_ ?_
            rotate_left
            ·
             simp only [Act.put, List.setIfInBounds_toArray, List.set_cons_zero, List.set_cons_succ, i64_w, i32_w]
             rfl
            refine pure_ (i := 6) (N := some 77) (v := undef) (a' := ?_) #[true, true, true, true, true, true, true, false, false, false, false, false, false] rfl rfl (any_of HT_.out (by kernel_rfl)) (fun _ _ _ h => h) (Or.inr ⟨by rfl, rfl⟩) ?_ ?_
            rotate_left
            ·
             simp only [Act.put, List.setIfInBounds_toArray, List.set_cons_zero, List.set_cons_succ, i64_w, i32_w]
             rfl
            refine pure_ (i := 7) (N := some 78) (v := undef) (a' := ?_) #[true, true, true, true, true, true, true, true, false, false, false, false, false] rfl rfl (any_of HT_.out (by kernel_rfl)) (fun _ _ _ h => h) (Or.inr ⟨by rfl, rfl⟩) ?_ ?_
            rotate_left
            ·
             simp only [Act.put, List.setIfInBounds_toArray, List.set_cons_zero, List.set_cons_succ, i64_w, i32_w]
             rfl
            refine pure_ (i := 8) (N := some 79) (v := undef) (a' := ?_) #[true, true, true, true, true, true, true, true, true, false, false, false, false] rfl rfl (any_of HT_.out (by kernel_rfl)) (fun _ _ _ h => h) (Or.inr ⟨by rfl, rfl⟩) ?_ ?_
            rotate_left
            ·
             simp only [Act.put, List.setIfInBounds_toArray, List.set_cons_zero, List.set_cons_succ, i64_w, i32_w]
             rfl
            refine pure_ (i := 9) (N := some 80) (v := undef) (a' := ?_) #[true, true, true, true, true, true, true, true, true, true, false, false, false] rfl rfl (any_of HT_.out (by kernel_rfl)) (fun _ _ _ h => h) (Or.inr ⟨by rfl, rfl⟩) ?_ ?_
            rotate_left
            ·
             simp only [Act.put, List.setIfInBounds_toArray, List.set_cons_zero, List.set_cons_succ, i64_w, i32_w]
             rfl
            refine pure_ (i := 10) (N := some 81) (v := undef) (a' := ?_) #[true, true, true, true, true, true, true, true, true, true, true, false, false] rfl rfl (any_of HT_.out (by kernel_rfl)) (fun _ _ _ h => h) (Or.inr ⟨by rfl, rfl⟩) ?_ ?_
            rotate_left
            ·
             simp only [Act.put, List.setIfInBounds_toArray, List.set_cons_zero, List.set_cons_succ, i64_w, i32_w]
             rfl
            refine pure_ (i := 11) (N := some 82) (v := ?_) (a' := ?_) #[true, true, true, true, true, true, true, true, true, true, true, true, false] rfl rfl (any_of HT_.out (by kernel_rfl)) (fun _ _ _ h => h) (Or.inl ⟨by rfl, ?_⟩) ?_ ?_
            rotate_left
            ·
             intro w'
             go_simp
             with_reducible rfl
            rotate_left
            ·
             simp only [Act.put, List.setIfInBounds_toArray, List.set_cons_zero, List.set_cons_succ, i64_w, i32_w]
             rfl
            refine pure_ (i := 12) (N := some 16) (v := ?_) (a' := ?_) #[true, true, true, true, true, true, true, true, true, true, true, true, true] rfl rfl (any_of HT_.out (by kernel_rfl)) (fun _ _ _ h => h) (Or.inl ⟨by rfl, ?_⟩) ?_ ?_
            rotate_left
            ·
             intro w'
             go_simp
             with_reducible rfl
            rotate_left
            ·
             simp only [Act.put, List.setIfInBounds_toArray, List.set_cons_zero, List.set_cons_succ, i64_w, i32_w]
             rfl
            refine done_ (done_of HT_.out (by kernel_rfl)) ?_
            try go_wp2
            go_roundg k2
            case measure => have := HK1.out; have := HK2.out; omega
            case rel => exact ⟨(true), (wrap64 (x18_2 + 1)), (by first | rfl | (simp; done) | (simp [*]; done)), (by first | rfl | (simp; done) | (simp [*]; done)), H', ⟨by have := HK1.out; have := HK2.out; omega⟩, ⟨RX (HO_14.out)⟩, ⟨RX (HO_15.out)⟩, ⟨RX (Hq0.out)⟩, ⟨RX (Hq1.out)⟩, ⟨RX (Hq2.out)⟩, ⟨RX (Hq3.out)⟩, ⟨RX (Hq4.out)⟩, ⟨RX (Hq5.out)⟩, ⟨BW BK174⟩, ⟨BW BK188⟩, ⟨BW BK203⟩, ⟨SW HB⟩⟩
           ·
            replace c55 := Bool.eq_false_iff.mpr c55
            subst c55
            have H1 : (if 0 ≤ x17_1 then (if x17_1 < (t211.length : Int) then (if 0 ≤ x18_2 then (synodallaw8_ConfMeet.l1 k2 t211 t214 ((rd t211 x17_1) == (rd t214 x18_2)) x17_1 (wrap64 (x18_2 + 1)) t168 t171 t181 t184 t196 t199) else (none)) else (none)) else (none)) = some r := by rw [if_neg (show ¬ (false = true) by decide)] at H; exact H
            clear H
            have H := H1
            clear H1
            by_cases c58 : 0 ≤ x17_1
            ·
             rw [if_pos c58] at H
             have c58b0 : decide (0 ≤ x17_1) = true := decide_eq_true c58
             clear c58
             by_cases c59 : x17_1 < (t211.length : Int)
             ·
              rw [if_pos c59] at H
              have c59b0 : decide (x17_1 < (t211.length : Int)) = true := decide_eq_true c59
              clear c59
              by_cases c60 : 0 ≤ x18_2
              ·
               rw [if_pos c60] at H
               have c60b0 : decide (0 ≤ x18_2) = true := decide_eq_true c60
               clear c60
               have H' := Aside0.mk H
               clear H
               obtain ⟨Ao61, co61, eo61⟩ := Kd.R_slice HO_15.out
               subst eo61
               try go_wp2
               have n0_ := Aside0.mk (Kd.R_drew HO_14.out)
               have n1_ := Aside0.mk (Kd.R_drew HO_15.out)
               have n2_ := Aside0.mk (Kd.R_drew Hq0.out)
               have n3_ := Aside0.mk (Kd.R_drew Hq1.out)
               have n4_ := Aside0.mk (Kd.R_drew Hq2.out)
               have n5_ := Aside0.mk (Kd.R_drew Hq3.out)
               have n6_ := Aside0.mk (Kd.R_drew Hq4.out)
               have n7_ := Aside0.mk (Kd.R_drew Hq5.out)
               have n8_ := Aside0.mk (blk_drew BK174.out)
               have n9_ := Aside0.mk (blk_drew BK188.out)
               have n10_ := Aside0.mk (blk_drew BK203.out)
               have n11_ := Aside0.mk (below_drew1 HB.out)
               clear HO_14
               clear HO_15
               clear Hq0
               clear Hq1
               clear Hq2
               clear Hq3
               clear Hq4
               clear Hq5
               clear BK174
               clear BK188
               clear BK203
               clear HB
               have HO_14 := n0_
               have HO_15 := n1_
               have Hq0 := n2_
               have Hq1 := n3_
               have Hq2 := n4_
               have Hq3 := n5_
               have Hq4 := n6_
               have Hq5 := n7_
               have BK174 := n8_
               have BK188 := n9_
               have BK203 := n10_
               have HB := n11_
               clear n0_ n1_ n2_ n3_ n4_ n5_ n6_ n7_ n8_ n9_ n10_ n11_
               have p217 : 0 ≤ (x17_1 : Int) := of_decide_eq_true (by first | (with_reducible assumption) | assumption)
               have q217 : x17_1 < (t211.length : Int) := of_decide_eq_true (by first | (with_reducible assumption) | assumption)
               obtain ⟨ad217, e217, hx217_0⟩ := Kd.at_int (Kd.R_reads' HO_14.out).2.2 x17_1 p217 q217
               cases e217
               replace p217 := eq_true p217
               replace q217 := eq_true q217
               have p218 : 0 ≤ (x18_2 : Int) := of_decide_eq_true (by first | (with_reducible assumption) | assumption)
               have q218 : x18_2 < (t214.length : Int) := of_decide_eq_true (by first | (with_reducible assumption) | assumption)
               obtain ⟨ad218, e218, hx218_0⟩ := Kd.at_int (Kd.R_reads' HO_15.out).2.2 x18_2 p218 q218
               cases e218
               replace p218 := eq_true p218
               replace q218 := eq_true q218
               refine start_ (n := 13) (S := fun w' => w'.cell? (ad217.add (x17_1).toNat) = some (.int .i64 (rd t211 x17_1)) ∧ w'.cell? (ad218.add (x18_2).toNat) = some (.int .i64 (rd t214 x18_2))) (ds := []) #[false, false, false, false, false, false, false, false, false, false, false, false, false] (by kernel_rfl) rfl rfl ⟨hx217_0, hx218_0⟩ (fun hHeld => ?_); refine with_tabW synodallaw8_ConfMeet.tab18 synodallaw8_ConfMeet.bits18 (fun HT_ HW_ => ?_)
               generalize wr.drew = w62 at HO_14 HO_15 Hq0 Hq1 Hq2 Hq3 Hq4 Hq5 BK174 BK188 BK203 HB hx217_0 hx218_0 hHeld ⊢
               refine pure_ (i := 0) (N := some 71) (v := ?_) (a' := ?_) #[true, false, false, false, false, false, false, false, false, false, false, false, false] rfl rfl (any_of HT_.out (by kernel_rfl)) (fun _ _ _ h => h) (Or.inl ⟨by rfl, ?_⟩) ?_ ?_
               rotate_left
               ·
                intro w'
                go_simp
                with_reducible rfl
               rotate_left
               ·
                simp only [Act.put, List.setIfInBounds_toArray, List.set_cons_zero, List.set_cons_succ, i64_w, i32_w]
                rfl
               refine pure_ (i := 1) (N := some 72) (v := ?_) (a' := ?_) #[true, true, false, false, false, false, false, false, false, false, false, false, false] rfl rfl (any_of HT_.out (by kernel_rfl)) (fun _ _ _ h => h) (Or.inl ⟨by rfl, ?_⟩) ?_ ?_
               rotate_left
               ·
                intro w'
                go_simp
                with_reducible rfl
               rotate_left
               ·
                simp only [Act.put, List.setIfInBounds_toArray, List.set_cons_zero, List.set_cons_succ, i64_w, i32_w]
                rfl
               refine pure_ (i := 2) (N := some 73) (v := ?_) (a' := ?_) #[true, true, true, false, false, false, false, false, false, false, false, false, false] rfl rfl (any_of HT_.out (by kernel_rfl)) (fun _ _ _ h => h) (Or.inl ⟨by rfl, ?_⟩) ?_ ?_
               rotate_left
               ·
                intro w'
                go_simp
                with_reducible rfl
               rotate_left
               ·
                simp only [Act.put, List.setIfInBounds_toArray, List.set_cons_zero, List.set_cons_succ, i64_w, i32_w]
                rfl
               refine pure_ (i := 3) (N := some 74) (v := ?_) (a' := ?_) #[true, true, true, true, false, false, false, false, false, false, false, false, false] rfl rfl (any_of HT_.out (by kernel_rfl)) (fun _ _ _ h => h) (Or.inl ⟨by rfl, ?_⟩) ?_ ?_
               rotate_left
               ·
                intro w'
                go_simp
                with_reducible rfl
               rotate_left
               ·
                simp only [Act.put, List.setIfInBounds_toArray, List.set_cons_zero, List.set_cons_succ, i64_w, i32_w]
                rfl
               refine pure_ (i := 4) (N := some 75) (v := ?_) (a' := ?_) #[true, true, true, true, true, false, false, false, false, false, false, false, false] rfl rfl (any_of HT_.out (by kernel_rfl)) (fun _ _ _ h => h) (Or.inl ⟨by rfl, ?_⟩) ?_ ?_
               rotate_left
               ·
                intro w'
                go_simp
                with_reducible rfl
               rotate_left
               ·
                simp only [Act.put, List.setIfInBounds_toArray, List.set_cons_zero, List.set_cons_succ, i64_w, i32_w]
                rfl
               refine pure_ (i := 6) (N := some 77) (v := ?_) (a' := ?_) #[true, true, true, true, true, false, true, false, false, false, false, false, false] rfl rfl (any_of HT_.out (by kernel_rfl)) (fun _ _ _ h => h) (Or.inl ⟨by rfl, ?_⟩) ?_ ?_
               rotate_left
               ·
                intro w'
                go_simp
                with_reducible rfl
               rotate_left
               ·
                simp only [Act.put, List.setIfInBounds_toArray, List.set_cons_zero, List.set_cons_succ, i64_w, i32_w]
                rfl
               refine pure_ (i := 7) (N := some 78) (v := ?_) (a' := ?_) #[true, true, true, true, true, false, true, true, false, false, false, false, false] rfl rfl (any_of HT_.out (by kernel_rfl)) (fun _ _ _ h => h) (Or.inl ⟨by rfl, ?_⟩) ?_ ?_
               rotate_left
               ·
                intro w'
                go_simp
                with_reducible rfl
               rotate_left
               ·
                simp only [Act.put, List.setIfInBounds_toArray, List.set_cons_zero, List.set_cons_succ, i64_w, i32_w]
                rfl
               refine pure_ (i := 8) (N := some 79) (v := ?_) (a' := ?_) #[true, true, true, true, true, false, true, true, true, false, false, false, false] rfl rfl (any_of HT_.out (by kernel_rfl)) (fun _ _ _ h => h) (Or.inl ⟨by rfl, ?_⟩) ?_ ?_
               rotate_left
               ·
                intro w'
                go_simp
                with_reducible rfl
               rotate_left
               ·
                simp only [Act.put, List.setIfInBounds_toArray, List.set_cons_zero, List.set_cons_succ, i64_w, i32_w]
                rfl
               refine take_ (i := 5) (N := some 76) (v := ?_) (a' := ?_) #[true, true, true, true, true, true, true, true, true, false, false, false, false] rfl rfl (take_ofW HT_.out HW_.out (by kernel_rfl)) (fun _ _ _ h => h) (Or.inl ⟨by rfl, ?_⟩) hHeld ?_ ?_
               rotate_left
               ·
                rintro w' ⟨s0, s1⟩
                go_simp
                with_reducible rfl
               rotate_left
               ·
                simp only [Act.put, List.setIfInBounds_toArray, List.set_cons_zero, List.set_cons_succ, i64_w, i32_w]
                rfl
               refine take_ (i := 9) (N := some 80) (v := ?_) (a' := ?_) #[true, true, true, true, true, true, true, true, true, true, false, false, false] rfl rfl (take_ofW HT_.out HW_.out (by kernel_rfl)) (fun _ _ _ h => h) (Or.inl ⟨by rfl, ?_⟩) hHeld ?_ ?_
               rotate_left
               ·
                rintro w' ⟨s0, s1⟩
                go_simp
                with_reducible rfl
               rotate_left
               ·
                simp only [Act.put, List.setIfInBounds_toArray, List.set_cons_zero, List.set_cons_succ, i64_w, i32_w]
                rfl
               refine pure_ (i := 10) (N := some 81) (v := ?_) (a' := ?_) #[true, true, true, true, true, true, true, true, true, true, true, false, false] rfl rfl (any_of HT_.out (by kernel_rfl)) (fun _ _ _ h => h) (Or.inl ⟨by rfl, ?_⟩) ?_ ?_
               rotate_left
               ·
                intro w'
                go_simp
                with_reducible rfl
               rotate_left
               ·
                simp only [Act.put, List.setIfInBounds_toArray, List.set_cons_zero, List.set_cons_succ, i64_w, i32_w]
                rfl
               refine pure_ (i := 11) (N := some 82) (v := ?_) (a' := ?_) #[true, true, true, true, true, true, true, true, true, true, true, true, false] rfl rfl (any_of HT_.out (by kernel_rfl)) (fun _ _ _ h => h) (Or.inl ⟨by rfl, ?_⟩) ?_ ?_
               rotate_left
               ·
                intro w'
                go_simp
                with_reducible rfl
               rotate_left
               ·
                simp only [Act.put, List.setIfInBounds_toArray, List.set_cons_zero, List.set_cons_succ, i64_w, i32_w]
                rfl
               refine pure_ (i := 12) (N := some 16) (v := ?_) (a' := ?_) #[true, true, true, true, true, true, true, true, true, true, true, true, true] rfl rfl (any_of HT_.out (by kernel_rfl)) (fun _ _ _ h => h) (Or.inl ⟨by rfl, ?_⟩) ?_ ?_
               rotate_left
               ·
                intro w'
                go_simp
                with_reducible rfl
               rotate_left
               ·
                simp only [Act.put, List.setIfInBounds_toArray, List.set_cons_zero, List.set_cons_succ, i64_w, i32_w]
                rfl
               refine done_ (done_of HT_.out (by kernel_rfl)) ?_
               try go_wp2
               go_roundg k2
               case measure => have := HK1.out; have := HK2.out; omega
               case rel => exact ⟨(((rd t211 x17_1) == (rd t214 x18_2))), (wrap64 (x18_2 + 1)), (by first | rfl | (simp; done) | (simp [*]; done)), (by first | rfl | (simp; done) | (simp [*]; done)), H', ⟨by have := HK1.out; have := HK2.out; omega⟩, ⟨RX (HO_14.out)⟩, ⟨RX (HO_15.out)⟩, ⟨RX (Hq0.out)⟩, ⟨RX (Hq1.out)⟩, ⟨RX (Hq2.out)⟩, ⟨RX (Hq3.out)⟩, ⟨RX (Hq4.out)⟩, ⟨RX (Hq5.out)⟩, ⟨BW BK174⟩, ⟨BW BK188⟩, ⟨BW BK203⟩, ⟨SW HB⟩⟩
              ·
               rw [if_neg c60] at H
               exact absurd H (by simp)
             ·
              rw [if_neg c59] at H
              exact absurd H (by simp)
            ·
             rw [if_neg c58] at H
             exact absurd H (by simp)
          ·
           rw [if_neg c54] at H
           have c54b0 : decide (x18_2 < (t214.length : Int)) = false := decide_eq_false c54
           clear c54
           have H' := Aside0.mk H
           clear H
           obtain ⟨Ao63, co63, eo63⟩ := Kd.R_slice HO_15.out
           subst eo63
           go_wp2
           go_roundg k2
           case measure => have := HK1.out; have := HK2.out; omega
           case rel => exact ⟨(x16_2), (wrap64 (x17_1 + 1)), (by first | rfl | (simp; done) | (simp [*]; done)), (by first | rfl | (simp; done) | (simp [*]; done)), H', ⟨by have := HK1.out; have := HK2.out; omega⟩, ⟨RX (HO_14.out)⟩, ⟨RX (HO_15.out)⟩, ⟨RX (Hq0.out)⟩, ⟨RX (Hq1.out)⟩, ⟨RX (Hq2.out)⟩, ⟨RX (Hq3.out)⟩, ⟨RX (Hq4.out)⟩, ⟨RX (Hq5.out)⟩, ⟨BW BK174⟩, ⟨BW BK188⟩, ⟨BW BK203⟩, ⟨SW HB⟩⟩
       ·
        rw [if_neg c52] at H
        have c52b0 : decide (x17_1 < (t211.length : Int)) = false := decide_eq_false c52
        clear c52
        by_cases c64 : x16_1 = true
        ·
         subst c64
         have H1 : (some true) = some r := by rw [if_pos rfl] at H; exact H
         clear H
         have H := H1
         clear H1
         obtain rfl := Option.some.inj H
         obtain ⟨Ao65, co65, eo65⟩ := Kd.R_slice HO_14.out
         subst eo65
         go_wp2
         go_ret
         exact ⟨by first | rfl | (simp [errW_none, errW_some] <;> rfl) | (simp [*, errW_none, errW_some] <;> rfl), SW HB⟩
        ·
         replace c64 := Bool.eq_false_iff.mpr c64
         subst c64
         have H1 : ((conf_Quorum.f k1 t168 t171 t211).bind fun t219 => (if t219 = true then ((conf_Quorum.f k1 t168 t171 t214).bind fun t220 => (if t220 = true then (none) else ((conf_Quorum.f k1 t181 t184 t214).bind fun t222 => (if t222 = true then (none) else ((conf_Quorum.f k1 t181 t184 t211).bind fun t223 => (if t223 = true then ((conf_Quorum.f k1 t196 t199 t214).bind fun t226 => (if t226 = true then (none) else ((conf_Quorum.f k1 t196 t199 t211).bind fun t227 => (if t227 = true then (some (!t226)) else (some (!false)))))) else ((conf_Quorum.f k1 t196 t199 t211).bind fun t230 => (if t230 = true then ((conf_Quorum.f k1 t196 t199 t214).bind fun t231 => (some (!t231))) else (some (!false)))))))))) else ((conf_Quorum.f k1 t181 t184 t211).bind fun t233 => (if t233 = true then ((conf_Quorum.f k1 t181 t184 t214).bind fun t234 => (if t234 = true then (none) else ((conf_Quorum.f k1 t196 t199 t214).bind fun t236 => (if t236 = true then (none) else ((conf_Quorum.f k1 t196 t199 t211).bind fun t237 => (if t237 = true then (some (!t236)) else (some (!false)))))))) else ((conf_Quorum.f k1 t196 t199 t211).bind fun t240 => (if t240 = true then ((conf_Quorum.f k1 t196 t199 t214).bind fun t241 => (some (!t241))) else (some (!false)))))))) = some r := by rw [if_neg (show ¬ (false = true) by decide)] at H; exact H
         clear H
         have H := H1
         clear H1
         replace H := Option.bind_eq_some_iff.mp H
         obtain ⟨t219, A660, H⟩ := H
         replace H : (if t219 = true then ((conf_Quorum.f k1 t168 t171 t214).bind fun t220 => (if t220 = true then (none) else ((conf_Quorum.f k1 t181 t184 t214).bind fun t222 => (if t222 = true then (none) else ((conf_Quorum.f k1 t181 t184 t211).bind fun t223 => (if t223 = true then ((conf_Quorum.f k1 t196 t199 t214).bind fun t226 => (if t226 = true then (none) else ((conf_Quorum.f k1 t196 t199 t211).bind fun t227 => (if t227 = true then (some (!t226)) else (some (!false)))))) else ((conf_Quorum.f k1 t196 t199 t211).bind fun t230 => (if t230 = true then ((conf_Quorum.f k1 t196 t199 t214).bind fun t231 => (some (!t231))) else (some (!false)))))))))) else ((conf_Quorum.f k1 t181 t184 t211).bind fun t233 => (if t233 = true then ((conf_Quorum.f k1 t181 t184 t214).bind fun t234 => (if t234 = true then (none) else ((conf_Quorum.f k1 t196 t199 t214).bind fun t236 => (if t236 = true then (none) else ((conf_Quorum.f k1 t196 t199 t211).bind fun t237 => (if t237 = true then (some (!t236)) else (some (!false)))))))) else ((conf_Quorum.f k1 t196 t199 t211).bind fun t240 => (if t240 = true then ((conf_Quorum.f k1 t196 t199 t214).bind fun t241 => (some (!t241))) else (some (!false))))))) = some r := H
         have A66 := Aside0.mk A660
         clear A660
         by_cases c67 : t219 = true
         ·
          subst c67
          have H1 : ((conf_Quorum.f k1 t168 t171 t214).bind fun t220 => (if t220 = true then (none) else ((conf_Quorum.f k1 t181 t184 t214).bind fun t222 => (if t222 = true then (none) else ((conf_Quorum.f k1 t181 t184 t211).bind fun t223 => (if t223 = true then ((conf_Quorum.f k1 t196 t199 t214).bind fun t226 => (if t226 = true then (none) else ((conf_Quorum.f k1 t196 t199 t211).bind fun t227 => (if t227 = true then (some (!t226)) else (some (!false)))))) else ((conf_Quorum.f k1 t196 t199 t211).bind fun t230 => (if t230 = true then ((conf_Quorum.f k1 t196 t199 t214).bind fun t231 => (some (!t231))) else (some (!false)))))))))) = some r := by rw [if_pos rfl] at H; exact H
          clear H
          have H := H1
          clear H1
          replace H := Option.bind_eq_some_iff.mp H
          obtain ⟨t220, A680, H⟩ := H
          replace H : (if t220 = true then (none) else ((conf_Quorum.f k1 t181 t184 t214).bind fun t222 => (if t222 = true then (none) else ((conf_Quorum.f k1 t181 t184 t211).bind fun t223 => (if t223 = true then ((conf_Quorum.f k1 t196 t199 t214).bind fun t226 => (if t226 = true then (none) else ((conf_Quorum.f k1 t196 t199 t211).bind fun t227 => (if t227 = true then (some (!t226)) else (some (!false)))))) else ((conf_Quorum.f k1 t196 t199 t211).bind fun t230 => (if t230 = true then ((conf_Quorum.f k1 t196 t199 t214).bind fun t231 => (some (!t231))) else (some (!false))))))))) = some r := H
          have A68 := Aside0.mk A680
          clear A680
          by_cases c69 : t220 = true
          ·
           subst c69
           have H1 : (none) = some r := by rw [if_pos rfl] at H; exact H
           clear H
           have H := H1
           clear H1
           exact absurd H (by simp)
          ·
           replace c69 := Bool.eq_false_iff.mpr c69
           subst c69
           have H1 : ((conf_Quorum.f k1 t181 t184 t214).bind fun t222 => (if t222 = true then (none) else ((conf_Quorum.f k1 t181 t184 t211).bind fun t223 => (if t223 = true then ((conf_Quorum.f k1 t196 t199 t214).bind fun t226 => (if t226 = true then (none) else ((conf_Quorum.f k1 t196 t199 t211).bind fun t227 => (if t227 = true then (some (!t226)) else (some (!false)))))) else ((conf_Quorum.f k1 t196 t199 t211).bind fun t230 => (if t230 = true then ((conf_Quorum.f k1 t196 t199 t214).bind fun t231 => (some (!t231))) else (some (!false)))))))) = some r := by rw [if_neg (show ¬ (false = true) by decide)] at H; exact H
           clear H
           have H := H1
           clear H1
           replace H := Option.bind_eq_some_iff.mp H
           obtain ⟨t222, A700, H⟩ := H
           replace H : (if t222 = true then (none) else ((conf_Quorum.f k1 t181 t184 t211).bind fun t223 => (if t223 = true then ((conf_Quorum.f k1 t196 t199 t214).bind fun t226 => (if t226 = true then (none) else ((conf_Quorum.f k1 t196 t199 t211).bind fun t227 => (if t227 = true then (some (!t226)) else (some (!false)))))) else ((conf_Quorum.f k1 t196 t199 t211).bind fun t230 => (if t230 = true then ((conf_Quorum.f k1 t196 t199 t214).bind fun t231 => (some (!t231))) else (some (!false))))))) = some r := H
           have A70 := Aside0.mk A700
           clear A700
           by_cases c71 : t222 = true
           ·
            subst c71
            have H1 : (none) = some r := by rw [if_pos rfl] at H; exact H
            clear H
            have H := H1
            clear H1
            exact absurd H (by simp)
           ·
            replace c71 := Bool.eq_false_iff.mpr c71
            subst c71
            have H1 : ((conf_Quorum.f k1 t181 t184 t211).bind fun t223 => (if t223 = true then ((conf_Quorum.f k1 t196 t199 t214).bind fun t226 => (if t226 = true then (none) else ((conf_Quorum.f k1 t196 t199 t211).bind fun t227 => (if t227 = true then (some (!t226)) else (some (!false)))))) else ((conf_Quorum.f k1 t196 t199 t211).bind fun t230 => (if t230 = true then ((conf_Quorum.f k1 t196 t199 t214).bind fun t231 => (some (!t231))) else (some (!false)))))) = some r := by rw [if_neg (show ¬ (false = true) by decide)] at H; exact H
            clear H
            have H := H1
            clear H1
            replace H := Option.bind_eq_some_iff.mp H
            obtain ⟨t223, A720, H⟩ := H
            replace H : (if t223 = true then ((conf_Quorum.f k1 t196 t199 t214).bind fun t226 => (if t226 = true then (none) else ((conf_Quorum.f k1 t196 t199 t211).bind fun t227 => (if t227 = true then (some (!t226)) else (some (!false)))))) else ((conf_Quorum.f k1 t196 t199 t211).bind fun t230 => (if t230 = true then ((conf_Quorum.f k1 t196 t199 t214).bind fun t231 => (some (!t231))) else (some (!false))))) = some r := H
            have A72 := Aside0.mk A720
            clear A720
            by_cases c73 : t223 = true
            ·
             subst c73
             have H1 : ((conf_Quorum.f k1 t196 t199 t214).bind fun t226 => (if t226 = true then (none) else ((conf_Quorum.f k1 t196 t199 t211).bind fun t227 => (if t227 = true then (some (!t226)) else (some (!false)))))) = some r := by rw [if_pos rfl] at H; exact H
             clear H
             have H := H1
             clear H1
             replace H := Option.bind_eq_some_iff.mp H
             obtain ⟨t226, A740, H⟩ := H
             replace H : (if t226 = true then (none) else ((conf_Quorum.f k1 t196 t199 t211).bind fun t227 => (if t227 = true then (some (!t226)) else (some (!false))))) = some r := H
             have A74 := Aside0.mk A740
             clear A740
             by_cases c75 : t226 = true
             ·
              subst c75
              have H1 : (none) = some r := by rw [if_pos rfl] at H; exact H
              clear H
              have H := H1
              clear H1
              exact absurd H (by simp)
             ·
              replace c75 := Bool.eq_false_iff.mpr c75
              subst c75
              have H1 : ((conf_Quorum.f k1 t196 t199 t211).bind fun t227 => (if t227 = true then (some (!false)) else (some (!false)))) = some r := by rw [if_neg (show ¬ (false = true) by decide)] at H; exact H
              clear H
              have H := H1
              clear H1
              replace H := Option.bind_eq_some_iff.mp H
              obtain ⟨t227, A760, H⟩ := H
              replace H : (if t227 = true then (some (!false)) else (some (!false))) = some r := H
              have A76 := Aside0.mk A760
              clear A760
              by_cases c77 : t227 = true
              ·
               subst c77
               have H1 : (some (!false)) = some r := by rw [if_pos rfl] at H; exact H
               clear H
               have H := H1
               clear H1
               obtain rfl := Option.some.inj H
               obtain ⟨Ao78, co78, eo78⟩ := Kd.R_slice HO_14.out
               subst eo78
               have hnb79 := NB174_188.out
               have hnc79 := NB188_174.out
               have hnb80 := NB174_203.out
               have hnc80 := NB203_174.out
               have hcz81_0 := C0 BK174
               have hcz81_1 := C1 BK174
               have hfz81_0 := blk_frozen BK174.out 0
               have hfz81_1 := blk_frozen BK174.out 1
               go_wp2_with (first | ((with_reducible refine gate_callee (f := 22) rfl ?_); refine goesL_ (some 86) rfl rfl Try.func22 (by kernel_rfl) rfl #[.agg #[.slice Ao21 t168.length co21, .slice Ao23 t171.length co23], .slice Ao78 t211.length co78] rfl (by (try simp only [List.map_toArray, List.map_cons, List.map_nil]); first | done | rfl | (simp only [List.length_drop, List.length_take]; rfl)) ?_; (with_reducible refine (conf_Quorum.calls k1 _ _ t168 _ _ t171 _ _ t211 true _ (RC Hq0) (RL Hq0) (RC Hq1) (RL Hq1) (RC HO_14) (RL HO_14) A66.out).mono ?_); rintro e w82 ⟨rfl, hb⟩; refine ⟨_, rfl, ?_⟩; replace HO_14 := RB HO_14 hb; replace HO_15 := RB HO_15 hb; replace Hq0 := RB Hq0 hb; replace Hq1 := RB Hq1 hb; replace Hq2 := RB Hq2 hb; replace Hq3 := RB Hq3 hb; replace Hq4 := RB Hq4 hb; replace Hq5 := RB Hq5 hb; replace BK174 := BB BK174 hb; replace BK188 := BB BK188 hb; replace BK203 := BB BK203 hb; replace HB := SB HB hb; (try clear hb); have hcz83_0 := C0 BK174; have hcz83_1 := C1 BK174; have hfz83_0 := blk_frozen BK174.out 0; have hfz83_1 := blk_frozen BK174.out 1; obtain ⟨Ao84, co84, eo84⟩ := Kd.R_slice HO_15.out; subst eo84) | (go_at_call 22; (with_reducible refine (conf_Quorum.calls k1 _ _ t168 _ _ t171 _ _ t214 false _ (RC Hq0) (RL Hq0) (RC Hq1) (RL Hq1) (RC HO_15) (RL HO_15) A68.out).mono ?_); rintro e w85 ⟨rfl, hb⟩; replace HO_14 := RB HO_14 hb; replace HO_15 := RB HO_15 hb; replace Hq0 := RB Hq0 hb; replace Hq1 := RB Hq1 hb; replace Hq2 := RB Hq2 hb; replace Hq3 := RB Hq3 hb; replace Hq4 := RB Hq4 hb; replace Hq5 := RB Hq5 hb; replace BK174 := BB BK174 hb; replace BK188 := BB BK188 hb; replace BK203 := BB BK203 hb; replace HB := SB HB hb; (try clear hb); have hcz86_0 := C0 BK174; have hcz86_1 := C1 BK174; have hfz86_0 := blk_frozen BK174.out 0; have hfz86_1 := blk_frozen BK174.out 1) | (go_at_call 22; (with_reducible refine (conf_Quorum.calls k1 _ _ t168 _ _ t171 _ _ t211 true _ (RC Hq0) (RL Hq0) (RC Hq1) (RL Hq1) (RC HO_14) (RL HO_14) A66.out).mono ?_); rintro e w87 ⟨rfl, hb⟩; replace HO_14 := RB HO_14 hb; replace HO_15 := RB HO_15 hb; replace Hq0 := RB Hq0 hb; replace Hq1 := RB Hq1 hb; replace Hq2 := RB Hq2 hb; replace Hq3 := RB Hq3 hb; replace Hq4 := RB Hq4 hb; replace Hq5 := RB Hq5 hb; replace BK174 := BB BK174 hb; replace BK188 := BB BK188 hb; replace BK203 := BB BK203 hb; replace HB := SB HB hb; (try clear hb); have hnb88 := NB188_203.out; have hnc88 := NB203_188.out; have hcz89_0 := C0 BK188; have hcz89_1 := C1 BK188; have hfz89_0 := blk_frozen BK188.out 0; have hfz89_1 := blk_frozen BK188.out 1) | (go_at_call 22; (with_reducible refine (conf_Quorum.calls k1 _ _ t181 _ _ t184 _ _ t214 false _ (RC Hq2) (RL Hq2) (RC Hq3) (RL Hq3) (RC HO_15) (RL HO_15) A70.out).mono ?_); rintro e w90 ⟨rfl, hb⟩; replace HO_14 := RB HO_14 hb; replace HO_15 := RB HO_15 hb; replace Hq0 := RB Hq0 hb; replace Hq1 := RB Hq1 hb; replace Hq2 := RB Hq2 hb; replace Hq3 := RB Hq3 hb; replace Hq4 := RB Hq4 hb; replace Hq5 := RB Hq5 hb; replace BK174 := BB BK174 hb; replace BK188 := BB BK188 hb; replace BK203 := BB BK203 hb; replace HB := SB HB hb; (try clear hb); have hcz91_0 := C0 BK188; have hcz91_1 := C1 BK188; have hfz91_0 := blk_frozen BK188.out 0; have hfz91_1 := blk_frozen BK188.out 1) | (go_at_call 22; (with_reducible refine (conf_Quorum.calls k1 _ _ t181 _ _ t184 _ _ t211 true _ (RC Hq2) (RL Hq2) (RC Hq3) (RL Hq3) (RC HO_14) (RL HO_14) A72.out).mono ?_); rintro e w92 ⟨rfl, hb⟩; replace HO_14 := RB HO_14 hb; replace HO_15 := RB HO_15 hb; replace Hq0 := RB Hq0 hb; replace Hq1 := RB Hq1 hb; replace Hq2 := RB Hq2 hb; replace Hq3 := RB Hq3 hb; replace Hq4 := RB Hq4 hb; replace Hq5 := RB Hq5 hb; replace BK174 := BB BK174 hb; replace BK188 := BB BK188 hb; replace BK203 := BB BK203 hb; replace HB := SB HB hb; (try clear hb); have hcz93_0 := C0 BK188; have hcz93_1 := C1 BK188; have hfz93_0 := blk_frozen BK188.out 0; have hfz93_1 := blk_frozen BK188.out 1; have hcz97_0 := C0 BK203; have hcz97_1 := C1 BK203; have hfz97_0 := blk_frozen BK203.out 0; have hfz97_1 := blk_frozen BK203.out 1) | (go_at_call 22; (with_reducible refine (conf_Quorum.calls k1 _ _ t196 _ _ t199 _ _ t214 false _ (RC Hq4) (RL Hq4) (RC Hq5) (RL Hq5) (RC HO_15) (RL HO_15) A74.out).mono ?_); rintro e w98 ⟨rfl, hb⟩; replace HO_14 := RB HO_14 hb; replace HO_15 := RB HO_15 hb; replace Hq0 := RB Hq0 hb; replace Hq1 := RB Hq1 hb; replace Hq2 := RB Hq2 hb; replace Hq3 := RB Hq3 hb; replace Hq4 := RB Hq4 hb; replace Hq5 := RB Hq5 hb; replace BK174 := BB BK174 hb; replace BK188 := BB BK188 hb; replace BK203 := BB BK203 hb; replace HB := SB HB hb; (try clear hb); have hcz99_0 := C0 BK203; have hcz99_1 := C1 BK203; have hfz99_0 := blk_frozen BK203.out 0; have hfz99_1 := blk_frozen BK203.out 1) | (go_at_call 22; (with_reducible refine (conf_Quorum.calls k1 _ _ t196 _ _ t199 _ _ t211 true _ (RC Hq4) (RL Hq4) (RC Hq5) (RL Hq5) (RC HO_14) (RL HO_14) A76.out).mono ?_); rintro e w100 ⟨rfl, hb⟩; replace HO_14 := RB HO_14 hb; replace HO_15 := RB HO_15 hb; replace Hq0 := RB Hq0 hb; replace Hq1 := RB Hq1 hb; replace Hq2 := RB Hq2 hb; replace Hq3 := RB Hq3 hb; replace Hq4 := RB Hq4 hb; replace Hq5 := RB Hq5 hb; replace BK174 := BB BK174 hb; replace BK188 := BB BK188 hb; replace BK203 := BB BK203 hb; replace HB := SB HB hb; (try clear hb); have hcz101_0 := C0 BK203; have hcz101_1 := C1 BK203; have hfz101_0 := blk_frozen BK203.out 0; have hfz101_1 := blk_frozen BK203.out 1))
               go_ret
               exact ⟨by first | rfl | (simp [errW_none, errW_some] <;> rfl) | (simp [*, errW_none, errW_some] <;> rfl), SW HB⟩
              ·
               replace c77 := Bool.eq_false_iff.mpr c77
               subst c77
               have H1 : (some (!false)) = some r := by rw [if_neg (show ¬ (false = true) by decide)] at H; exact H
               clear H
               have H := H1
               clear H1
               obtain rfl := Option.some.inj H
               obtain ⟨Ao103, co103, eo103⟩ := Kd.R_slice HO_14.out
               subst eo103
               have hnb104 := NB174_188.out
               have hnc104 := NB188_174.out
               have hnb105 := NB174_203.out
               have hnc105 := NB203_174.out
               have hcz106_0 := C0 BK174
               have hcz106_1 := C1 BK174
               have hfz106_0 := blk_frozen BK174.out 0
               have hfz106_1 := blk_frozen BK174.out 1
               go_wp2_with (first | ((with_reducible refine gate_callee (f := 22) rfl ?_); refine goesL_ (some 86) rfl rfl Try.func22 (by kernel_rfl) rfl #[.agg #[.slice Ao21 t168.length co21, .slice Ao23 t171.length co23], .slice Ao103 t211.length co103] rfl (by (try simp only [List.map_toArray, List.map_cons, List.map_nil]); first | done | rfl | (simp only [List.length_drop, List.length_take]; rfl)) ?_; (with_reducible refine (conf_Quorum.calls k1 _ _ t168 _ _ t171 _ _ t211 true _ (RC Hq0) (RL Hq0) (RC Hq1) (RL Hq1) (RC HO_14) (RL HO_14) A66.out).mono ?_); rintro e w107 ⟨rfl, hb⟩; refine ⟨_, rfl, ?_⟩; replace HO_14 := RB HO_14 hb; replace HO_15 := RB HO_15 hb; replace Hq0 := RB Hq0 hb; replace Hq1 := RB Hq1 hb; replace Hq2 := RB Hq2 hb; replace Hq3 := RB Hq3 hb; replace Hq4 := RB Hq4 hb; replace Hq5 := RB Hq5 hb; replace BK174 := BB BK174 hb; replace BK188 := BB BK188 hb; replace BK203 := BB BK203 hb; replace HB := SB HB hb; (try clear hb); have hcz108_0 := C0 BK174; have hcz108_1 := C1 BK174; have hfz108_0 := blk_frozen BK174.out 0; have hfz108_1 := blk_frozen BK174.out 1; obtain ⟨Ao109, co109, eo109⟩ := Kd.R_slice HO_15.out; subst eo109) | (go_at_call 22; (with_reducible refine (conf_Quorum.calls k1 _ _ t168 _ _ t171 _ _ t214 false _ (RC Hq0) (RL Hq0) (RC Hq1) (RL Hq1) (RC HO_15) (RL HO_15) A68.out).mono ?_); rintro e w110 ⟨rfl, hb⟩; replace HO_14 := RB HO_14 hb; replace HO_15 := RB HO_15 hb; replace Hq0 := RB Hq0 hb; replace Hq1 := RB Hq1 hb; replace Hq2 := RB Hq2 hb; replace Hq3 := RB Hq3 hb; replace Hq4 := RB Hq4 hb; replace Hq5 := RB Hq5 hb; replace BK174 := BB BK174 hb; replace BK188 := BB BK188 hb; replace BK203 := BB BK203 hb; replace HB := SB HB hb; (try clear hb); have hcz111_0 := C0 BK174; have hcz111_1 := C1 BK174; have hfz111_0 := blk_frozen BK174.out 0; have hfz111_1 := blk_frozen BK174.out 1) | (go_at_call 22; (with_reducible refine (conf_Quorum.calls k1 _ _ t168 _ _ t171 _ _ t211 true _ (RC Hq0) (RL Hq0) (RC Hq1) (RL Hq1) (RC HO_14) (RL HO_14) A66.out).mono ?_); rintro e w112 ⟨rfl, hb⟩; replace HO_14 := RB HO_14 hb; replace HO_15 := RB HO_15 hb; replace Hq0 := RB Hq0 hb; replace Hq1 := RB Hq1 hb; replace Hq2 := RB Hq2 hb; replace Hq3 := RB Hq3 hb; replace Hq4 := RB Hq4 hb; replace Hq5 := RB Hq5 hb; replace BK174 := BB BK174 hb; replace BK188 := BB BK188 hb; replace BK203 := BB BK203 hb; replace HB := SB HB hb; (try clear hb); have hnb113 := NB188_203.out; have hnc113 := NB203_188.out; have hcz114_0 := C0 BK188; have hcz114_1 := C1 BK188; have hfz114_0 := blk_frozen BK188.out 0; have hfz114_1 := blk_frozen BK188.out 1) | (go_at_call 22; (with_reducible refine (conf_Quorum.calls k1 _ _ t181 _ _ t184 _ _ t214 false _ (RC Hq2) (RL Hq2) (RC Hq3) (RL Hq3) (RC HO_15) (RL HO_15) A70.out).mono ?_); rintro e w115 ⟨rfl, hb⟩; replace HO_14 := RB HO_14 hb; replace HO_15 := RB HO_15 hb; replace Hq0 := RB Hq0 hb; replace Hq1 := RB Hq1 hb; replace Hq2 := RB Hq2 hb; replace Hq3 := RB Hq3 hb; replace Hq4 := RB Hq4 hb; replace Hq5 := RB Hq5 hb; replace BK174 := BB BK174 hb; replace BK188 := BB BK188 hb; replace BK203 := BB BK203 hb; replace HB := SB HB hb; (try clear hb); have hcz116_0 := C0 BK188; have hcz116_1 := C1 BK188; have hfz116_0 := blk_frozen BK188.out 0; have hfz116_1 := blk_frozen BK188.out 1) | (go_at_call 22; (with_reducible refine (conf_Quorum.calls k1 _ _ t181 _ _ t184 _ _ t211 true _ (RC Hq2) (RL Hq2) (RC Hq3) (RL Hq3) (RC HO_14) (RL HO_14) A72.out).mono ?_); rintro e w117 ⟨rfl, hb⟩; replace HO_14 := RB HO_14 hb; replace HO_15 := RB HO_15 hb; replace Hq0 := RB Hq0 hb; replace Hq1 := RB Hq1 hb; replace Hq2 := RB Hq2 hb; replace Hq3 := RB Hq3 hb; replace Hq4 := RB Hq4 hb; replace Hq5 := RB Hq5 hb; replace BK174 := BB BK174 hb; replace BK188 := BB BK188 hb; replace BK203 := BB BK203 hb; replace HB := SB HB hb; (try clear hb); have hcz118_0 := C0 BK188; have hcz118_1 := C1 BK188; have hfz118_0 := blk_frozen BK188.out 0; have hfz118_1 := blk_frozen BK188.out 1; have hcz122_0 := C0 BK203; have hcz122_1 := C1 BK203; have hfz122_0 := blk_frozen BK203.out 0; have hfz122_1 := blk_frozen BK203.out 1) | (go_at_call 22; (with_reducible refine (conf_Quorum.calls k1 _ _ t196 _ _ t199 _ _ t214 false _ (RC Hq4) (RL Hq4) (RC Hq5) (RL Hq5) (RC HO_15) (RL HO_15) A74.out).mono ?_); rintro e w123 ⟨rfl, hb⟩; replace HO_14 := RB HO_14 hb; replace HO_15 := RB HO_15 hb; replace Hq0 := RB Hq0 hb; replace Hq1 := RB Hq1 hb; replace Hq2 := RB Hq2 hb; replace Hq3 := RB Hq3 hb; replace Hq4 := RB Hq4 hb; replace Hq5 := RB Hq5 hb; replace BK174 := BB BK174 hb; replace BK188 := BB BK188 hb; replace BK203 := BB BK203 hb; replace HB := SB HB hb; (try clear hb); have hcz124_0 := C0 BK203; have hcz124_1 := C1 BK203; have hfz124_0 := blk_frozen BK203.out 0; have hfz124_1 := blk_frozen BK203.out 1) | (go_at_call 22; (with_reducible refine (conf_Quorum.calls k1 _ _ t196 _ _ t199 _ _ t211 false _ (RC Hq4) (RL Hq4) (RC Hq5) (RL Hq5) (RC HO_14) (RL HO_14) A76.out).mono ?_); rintro e w125 ⟨rfl, hb⟩; replace HO_14 := RB HO_14 hb; replace HO_15 := RB HO_15 hb; replace Hq0 := RB Hq0 hb; replace Hq1 := RB Hq1 hb; replace Hq2 := RB Hq2 hb; replace Hq3 := RB Hq3 hb; replace Hq4 := RB Hq4 hb; replace Hq5 := RB Hq5 hb; replace BK174 := BB BK174 hb; replace BK188 := BB BK188 hb; replace BK203 := BB BK203 hb; replace HB := SB HB hb; (try clear hb)))
               go_ret
               exact ⟨by first | rfl | (simp [errW_none, errW_some] <;> rfl) | (simp [*, errW_none, errW_some] <;> rfl), SW HB⟩
            ·
             replace c73 := Bool.eq_false_iff.mpr c73
             subst c73
             have H1 : ((conf_Quorum.f k1 t196 t199 t211).bind fun t230 => (if t230 = true then ((conf_Quorum.f k1 t196 t199 t214).bind fun t231 => (some (!t231))) else (some (!false)))) = some r := by rw [if_neg (show ¬ (false = true) by decide)] at H; exact H
             clear H
             have H := H1
             clear H1
             replace H := Option.bind_eq_some_iff.mp H
             obtain ⟨t230, A1260, H⟩ := H
             replace H : (if t230 = true then ((conf_Quorum.f k1 t196 t199 t214).bind fun t231 => (some (!t231))) else (some (!false))) = some r := H
             have A126 := Aside0.mk A1260
             clear A1260
             by_cases c127 : t230 = true
             ·
              subst c127
              have H1 : ((conf_Quorum.f k1 t196 t199 t214).bind fun t231 => (some (!t231))) = some r := by rw [if_pos rfl] at H; exact H
              clear H
              have H := H1
              clear H1
              replace H := Option.bind_eq_some_iff.mp H
              obtain ⟨t231, A1280, H⟩ := H
              replace H : (some (!t231)) = some r := H
              have A128 := Aside0.mk A1280
              clear A1280
              obtain rfl := Option.some.inj H
              obtain ⟨Ao129, co129, eo129⟩ := Kd.R_slice HO_14.out
              subst eo129
              have hnb130 := NB174_188.out
              have hnc130 := NB188_174.out
              have hnb131 := NB174_203.out
              have hnc131 := NB203_174.out
              have hcz132_0 := C0 BK174
              have hcz132_1 := C1 BK174
              have hfz132_0 := blk_frozen BK174.out 0
              have hfz132_1 := blk_frozen BK174.out 1
              go_wp2_with (first | ((with_reducible refine gate_callee (f := 22) rfl ?_); refine goesL_ (some 86) rfl rfl Try.func22 (by kernel_rfl) rfl #[.agg #[.slice Ao21 t168.length co21, .slice Ao23 t171.length co23], .slice Ao129 t211.length co129] rfl (by (try simp only [List.map_toArray, List.map_cons, List.map_nil]); first | done | rfl | (simp only [List.length_drop, List.length_take]; rfl)) ?_; (with_reducible refine (conf_Quorum.calls k1 _ _ t168 _ _ t171 _ _ t211 true _ (RC Hq0) (RL Hq0) (RC Hq1) (RL Hq1) (RC HO_14) (RL HO_14) A66.out).mono ?_); rintro e w133 ⟨rfl, hb⟩; refine ⟨_, rfl, ?_⟩; replace HO_14 := RB HO_14 hb; replace HO_15 := RB HO_15 hb; replace Hq0 := RB Hq0 hb; replace Hq1 := RB Hq1 hb; replace Hq2 := RB Hq2 hb; replace Hq3 := RB Hq3 hb; replace Hq4 := RB Hq4 hb; replace Hq5 := RB Hq5 hb; replace BK174 := BB BK174 hb; replace BK188 := BB BK188 hb; replace BK203 := BB BK203 hb; replace HB := SB HB hb; (try clear hb); have hcz134_0 := C0 BK174; have hcz134_1 := C1 BK174; have hfz134_0 := blk_frozen BK174.out 0; have hfz134_1 := blk_frozen BK174.out 1; obtain ⟨Ao135, co135, eo135⟩ := Kd.R_slice HO_15.out; subst eo135) | (go_at_call 22; (with_reducible refine (conf_Quorum.calls k1 _ _ t168 _ _ t171 _ _ t214 false _ (RC Hq0) (RL Hq0) (RC Hq1) (RL Hq1) (RC HO_15) (RL HO_15) A68.out).mono ?_); rintro e w136 ⟨rfl, hb⟩; replace HO_14 := RB HO_14 hb; replace HO_15 := RB HO_15 hb; replace Hq0 := RB Hq0 hb; replace Hq1 := RB Hq1 hb; replace Hq2 := RB Hq2 hb; replace Hq3 := RB Hq3 hb; replace Hq4 := RB Hq4 hb; replace Hq5 := RB Hq5 hb; replace BK174 := BB BK174 hb; replace BK188 := BB BK188 hb; replace BK203 := BB BK203 hb; replace HB := SB HB hb; (try clear hb); have hcz137_0 := C0 BK174; have hcz137_1 := C1 BK174; have hfz137_0 := blk_frozen BK174.out 0; have hfz137_1 := blk_frozen BK174.out 1) | (go_at_call 22; (with_reducible refine (conf_Quorum.calls k1 _ _ t168 _ _ t171 _ _ t211 true _ (RC Hq0) (RL Hq0) (RC Hq1) (RL Hq1) (RC HO_14) (RL HO_14) A66.out).mono ?_); rintro e w138 ⟨rfl, hb⟩; replace HO_14 := RB HO_14 hb; replace HO_15 := RB HO_15 hb; replace Hq0 := RB Hq0 hb; replace Hq1 := RB Hq1 hb; replace Hq2 := RB Hq2 hb; replace Hq3 := RB Hq3 hb; replace Hq4 := RB Hq4 hb; replace Hq5 := RB Hq5 hb; replace BK174 := BB BK174 hb; replace BK188 := BB BK188 hb; replace BK203 := BB BK203 hb; replace HB := SB HB hb; (try clear hb); have hnb139 := NB188_203.out; have hnc139 := NB203_188.out; have hcz140_0 := C0 BK188; have hcz140_1 := C1 BK188; have hfz140_0 := blk_frozen BK188.out 0; have hfz140_1 := blk_frozen BK188.out 1) | (go_at_call 22; (with_reducible refine (conf_Quorum.calls k1 _ _ t181 _ _ t184 _ _ t214 false _ (RC Hq2) (RL Hq2) (RC Hq3) (RL Hq3) (RC HO_15) (RL HO_15) A70.out).mono ?_); rintro e w141 ⟨rfl, hb⟩; replace HO_14 := RB HO_14 hb; replace HO_15 := RB HO_15 hb; replace Hq0 := RB Hq0 hb; replace Hq1 := RB Hq1 hb; replace Hq2 := RB Hq2 hb; replace Hq3 := RB Hq3 hb; replace Hq4 := RB Hq4 hb; replace Hq5 := RB Hq5 hb; replace BK174 := BB BK174 hb; replace BK188 := BB BK188 hb; replace BK203 := BB BK203 hb; replace HB := SB HB hb; (try clear hb); have hcz142_0 := C0 BK188; have hcz142_1 := C1 BK188; have hfz142_0 := blk_frozen BK188.out 0; have hfz142_1 := blk_frozen BK188.out 1) | (go_at_call 22; (with_reducible refine (conf_Quorum.calls k1 _ _ t181 _ _ t184 _ _ t211 false _ (RC Hq2) (RL Hq2) (RC Hq3) (RL Hq3) (RC HO_14) (RL HO_14) A72.out).mono ?_); rintro e w143 ⟨rfl, hb⟩; replace HO_14 := RB HO_14 hb; replace HO_15 := RB HO_15 hb; replace Hq0 := RB Hq0 hb; replace Hq1 := RB Hq1 hb; replace Hq2 := RB Hq2 hb; replace Hq3 := RB Hq3 hb; replace Hq4 := RB Hq4 hb; replace Hq5 := RB Hq5 hb; replace BK174 := BB BK174 hb; replace BK188 := BB BK188 hb; replace BK203 := BB BK203 hb; replace HB := SB HB hb; (try clear hb); have hcz144_0 := C0 BK188; have hcz144_1 := C1 BK188; have hfz144_0 := blk_frozen BK188.out 0; have hfz144_1 := blk_frozen BK188.out 1; have hcz146_0 := C0 BK203; have hcz146_1 := C1 BK203; have hfz146_0 := blk_frozen BK203.out 0; have hfz146_1 := blk_frozen BK203.out 1) | (go_at_call 22; (with_reducible refine (conf_Quorum.calls k1 _ _ t196 _ _ t199 _ _ t211 true _ (RC Hq4) (RL Hq4) (RC Hq5) (RL Hq5) (RC HO_14) (RL HO_14) A126.out).mono ?_); rintro e w147 ⟨rfl, hb⟩; replace HO_14 := RB HO_14 hb; replace HO_15 := RB HO_15 hb; replace Hq0 := RB Hq0 hb; replace Hq1 := RB Hq1 hb; replace Hq2 := RB Hq2 hb; replace Hq3 := RB Hq3 hb; replace Hq4 := RB Hq4 hb; replace Hq5 := RB Hq5 hb; replace BK174 := BB BK174 hb; replace BK188 := BB BK188 hb; replace BK203 := BB BK203 hb; replace HB := SB HB hb; (try clear hb); have hcz148_0 := C0 BK203; have hcz148_1 := C1 BK203; have hfz148_0 := blk_frozen BK203.out 0; have hfz148_1 := blk_frozen BK203.out 1) | (go_at_call 22; (with_reducible refine (conf_Quorum.calls k1 _ _ t196 _ _ t199 _ _ t214 t231 _ (RC Hq4) (RL Hq4) (RC Hq5) (RL Hq5) (RC HO_15) (RL HO_15) A128.out).mono ?_); rintro e w149 ⟨rfl, hb⟩; replace HO_14 := RB HO_14 hb; replace HO_15 := RB HO_15 hb; replace Hq0 := RB Hq0 hb; replace Hq1 := RB Hq1 hb; replace Hq2 := RB Hq2 hb; replace Hq3 := RB Hq3 hb; replace Hq4 := RB Hq4 hb; replace Hq5 := RB Hq5 hb; replace BK174 := BB BK174 hb; replace BK188 := BB BK188 hb; replace BK203 := BB BK203 hb; replace HB := SB HB hb; (try clear hb)))
              go_ret
              exact ⟨by first | rfl | (simp [errW_none, errW_some] <;> rfl) | (simp [*, errW_none, errW_some] <;> rfl), SW HB⟩
             ·
              replace c127 := Bool.eq_false_iff.mpr c127
              subst c127
              have H1 : (some (!false)) = some r := by rw [if_neg (show ¬ (false = true) by decide)] at H; exact H
              clear H
              have H := H1
              clear H1
              obtain rfl := Option.some.inj H
              obtain ⟨Ao150, co150, eo150⟩ := Kd.R_slice HO_14.out
              subst eo150
              have hnb151 := NB174_188.out
              have hnc151 := NB188_174.out
              have hnb152 := NB174_203.out
              have hnc152 := NB203_174.out
              have hcz153_0 := C0 BK174
              have hcz153_1 := C1 BK174
              have hfz153_0 := blk_frozen BK174.out 0
              have hfz153_1 := blk_frozen BK174.out 1
              go_wp2_with (first | ((with_reducible refine gate_callee (f := 22) rfl ?_); refine goesL_ (some 86) rfl rfl Try.func22 (by kernel_rfl) rfl #[.agg #[.slice Ao21 t168.length co21, .slice Ao23 t171.length co23], .slice Ao150 t211.length co150] rfl (by (try simp only [List.map_toArray, List.map_cons, List.map_nil]); first | done | rfl | (simp only [List.length_drop, List.length_take]; rfl)) ?_; (with_reducible refine (conf_Quorum.calls k1 _ _ t168 _ _ t171 _ _ t211 true _ (RC Hq0) (RL Hq0) (RC Hq1) (RL Hq1) (RC HO_14) (RL HO_14) A66.out).mono ?_); rintro e w154 ⟨rfl, hb⟩; refine ⟨_, rfl, ?_⟩; replace HO_14 := RB HO_14 hb; replace HO_15 := RB HO_15 hb; replace Hq0 := RB Hq0 hb; replace Hq1 := RB Hq1 hb; replace Hq2 := RB Hq2 hb; replace Hq3 := RB Hq3 hb; replace Hq4 := RB Hq4 hb; replace Hq5 := RB Hq5 hb; replace BK174 := BB BK174 hb; replace BK188 := BB BK188 hb; replace BK203 := BB BK203 hb; replace HB := SB HB hb; (try clear hb); have hcz155_0 := C0 BK174; have hcz155_1 := C1 BK174; have hfz155_0 := blk_frozen BK174.out 0; have hfz155_1 := blk_frozen BK174.out 1; obtain ⟨Ao156, co156, eo156⟩ := Kd.R_slice HO_15.out; subst eo156) | (go_at_call 22; (with_reducible refine (conf_Quorum.calls k1 _ _ t168 _ _ t171 _ _ t214 false _ (RC Hq0) (RL Hq0) (RC Hq1) (RL Hq1) (RC HO_15) (RL HO_15) A68.out).mono ?_); rintro e w157 ⟨rfl, hb⟩; replace HO_14 := RB HO_14 hb; replace HO_15 := RB HO_15 hb; replace Hq0 := RB Hq0 hb; replace Hq1 := RB Hq1 hb; replace Hq2 := RB Hq2 hb; replace Hq3 := RB Hq3 hb; replace Hq4 := RB Hq4 hb; replace Hq5 := RB Hq5 hb; replace BK174 := BB BK174 hb; replace BK188 := BB BK188 hb; replace BK203 := BB BK203 hb; replace HB := SB HB hb; (try clear hb); have hcz158_0 := C0 BK174; have hcz158_1 := C1 BK174; have hfz158_0 := blk_frozen BK174.out 0; have hfz158_1 := blk_frozen BK174.out 1) | (go_at_call 22; (with_reducible refine (conf_Quorum.calls k1 _ _ t168 _ _ t171 _ _ t211 true _ (RC Hq0) (RL Hq0) (RC Hq1) (RL Hq1) (RC HO_14) (RL HO_14) A66.out).mono ?_); rintro e w159 ⟨rfl, hb⟩; replace HO_14 := RB HO_14 hb; replace HO_15 := RB HO_15 hb; replace Hq0 := RB Hq0 hb; replace Hq1 := RB Hq1 hb; replace Hq2 := RB Hq2 hb; replace Hq3 := RB Hq3 hb; replace Hq4 := RB Hq4 hb; replace Hq5 := RB Hq5 hb; replace BK174 := BB BK174 hb; replace BK188 := BB BK188 hb; replace BK203 := BB BK203 hb; replace HB := SB HB hb; (try clear hb); have hnb160 := NB188_203.out; have hnc160 := NB203_188.out; have hcz161_0 := C0 BK188; have hcz161_1 := C1 BK188; have hfz161_0 := blk_frozen BK188.out 0; have hfz161_1 := blk_frozen BK188.out 1) | (go_at_call 22; (with_reducible refine (conf_Quorum.calls k1 _ _ t181 _ _ t184 _ _ t214 false _ (RC Hq2) (RL Hq2) (RC Hq3) (RL Hq3) (RC HO_15) (RL HO_15) A70.out).mono ?_); rintro e w162 ⟨rfl, hb⟩; replace HO_14 := RB HO_14 hb; replace HO_15 := RB HO_15 hb; replace Hq0 := RB Hq0 hb; replace Hq1 := RB Hq1 hb; replace Hq2 := RB Hq2 hb; replace Hq3 := RB Hq3 hb; replace Hq4 := RB Hq4 hb; replace Hq5 := RB Hq5 hb; replace BK174 := BB BK174 hb; replace BK188 := BB BK188 hb; replace BK203 := BB BK203 hb; replace HB := SB HB hb; (try clear hb); have hcz163_0 := C0 BK188; have hcz163_1 := C1 BK188; have hfz163_0 := blk_frozen BK188.out 0; have hfz163_1 := blk_frozen BK188.out 1) | (go_at_call 22; (with_reducible refine (conf_Quorum.calls k1 _ _ t181 _ _ t184 _ _ t211 false _ (RC Hq2) (RL Hq2) (RC Hq3) (RL Hq3) (RC HO_14) (RL HO_14) A72.out).mono ?_); rintro e w164 ⟨rfl, hb⟩; replace HO_14 := RB HO_14 hb; replace HO_15 := RB HO_15 hb; replace Hq0 := RB Hq0 hb; replace Hq1 := RB Hq1 hb; replace Hq2 := RB Hq2 hb; replace Hq3 := RB Hq3 hb; replace Hq4 := RB Hq4 hb; replace Hq5 := RB Hq5 hb; replace BK174 := BB BK174 hb; replace BK188 := BB BK188 hb; replace BK203 := BB BK203 hb; replace HB := SB HB hb; (try clear hb); have hcz165_0 := C0 BK188; have hcz165_1 := C1 BK188; have hfz165_0 := blk_frozen BK188.out 0; have hfz165_1 := blk_frozen BK188.out 1; have hcz167_0 := C0 BK203; have hcz167_1 := C1 BK203; have hfz167_0 := blk_frozen BK203.out 0; have hfz167_1 := blk_frozen BK203.out 1) | (go_at_call 22; (with_reducible refine (conf_Quorum.calls k1 _ _ t196 _ _ t199 _ _ t211 false _ (RC Hq4) (RL Hq4) (RC Hq5) (RL Hq5) (RC HO_14) (RL HO_14) A126.out).mono ?_); rintro e w168 ⟨rfl, hb⟩; replace HO_14 := RB HO_14 hb; replace HO_15 := RB HO_15 hb; replace Hq0 := RB Hq0 hb; replace Hq1 := RB Hq1 hb; replace Hq2 := RB Hq2 hb; replace Hq3 := RB Hq3 hb; replace Hq4 := RB Hq4 hb; replace Hq5 := RB Hq5 hb; replace BK174 := BB BK174 hb; replace BK188 := BB BK188 hb; replace BK203 := BB BK203 hb; replace HB := SB HB hb; (try clear hb)))
              go_ret
              exact ⟨by first | rfl | (simp [errW_none, errW_some] <;> rfl) | (simp [*, errW_none, errW_some] <;> rfl), SW HB⟩
         ·
          replace c67 := Bool.eq_false_iff.mpr c67
          subst c67
          have H1 : ((conf_Quorum.f k1 t181 t184 t211).bind fun t233 => (if t233 = true then ((conf_Quorum.f k1 t181 t184 t214).bind fun t234 => (if t234 = true then (none) else ((conf_Quorum.f k1 t196 t199 t214).bind fun t236 => (if t236 = true then (none) else ((conf_Quorum.f k1 t196 t199 t211).bind fun t237 => (if t237 = true then (some (!t236)) else (some (!false)))))))) else ((conf_Quorum.f k1 t196 t199 t211).bind fun t240 => (if t240 = true then ((conf_Quorum.f k1 t196 t199 t214).bind fun t241 => (some (!t241))) else (some (!false)))))) = some r := by rw [if_neg (show ¬ (false = true) by decide)] at H; exact H
          clear H
          have H := H1
          clear H1
          replace H := Option.bind_eq_some_iff.mp H
          obtain ⟨t233, A1690, H⟩ := H
          replace H : (if t233 = true then ((conf_Quorum.f k1 t181 t184 t214).bind fun t234 => (if t234 = true then (none) else ((conf_Quorum.f k1 t196 t199 t214).bind fun t236 => (if t236 = true then (none) else ((conf_Quorum.f k1 t196 t199 t211).bind fun t237 => (if t237 = true then (some (!t236)) else (some (!false)))))))) else ((conf_Quorum.f k1 t196 t199 t211).bind fun t240 => (if t240 = true then ((conf_Quorum.f k1 t196 t199 t214).bind fun t241 => (some (!t241))) else (some (!false))))) = some r := H
          have A169 := Aside0.mk A1690
          clear A1690
          by_cases c170 : t233 = true
          ·
           subst c170
           have H1 : ((conf_Quorum.f k1 t181 t184 t214).bind fun t234 => (if t234 = true then (none) else ((conf_Quorum.f k1 t196 t199 t214).bind fun t236 => (if t236 = true then (none) else ((conf_Quorum.f k1 t196 t199 t211).bind fun t237 => (if t237 = true then (some (!t236)) else (some (!false)))))))) = some r := by rw [if_pos rfl] at H; exact H
           clear H
           have H := H1
           clear H1
           replace H := Option.bind_eq_some_iff.mp H
           obtain ⟨t234, A1710, H⟩ := H
           replace H : (if t234 = true then (none) else ((conf_Quorum.f k1 t196 t199 t214).bind fun t236 => (if t236 = true then (none) else ((conf_Quorum.f k1 t196 t199 t211).bind fun t237 => (if t237 = true then (some (!t236)) else (some (!false))))))) = some r := H
           have A171 := Aside0.mk A1710
           clear A1710
           by_cases c172 : t234 = true
           ·
            subst c172
            have H1 : (none) = some r := by rw [if_pos rfl] at H; exact H
            clear H
            have H := H1
            clear H1
            exact absurd H (by simp)
           ·
            replace c172 := Bool.eq_false_iff.mpr c172
            subst c172
            have H1 : ((conf_Quorum.f k1 t196 t199 t214).bind fun t236 => (if t236 = true then (none) else ((conf_Quorum.f k1 t196 t199 t211).bind fun t237 => (if t237 = true then (some (!t236)) else (some (!false)))))) = some r := by rw [if_neg (show ¬ (false = true) by decide)] at H; exact H
            clear H
            have H := H1
            clear H1
            replace H := Option.bind_eq_some_iff.mp H
            obtain ⟨t236, A1730, H⟩ := H
            replace H : (if t236 = true then (none) else ((conf_Quorum.f k1 t196 t199 t211).bind fun t237 => (if t237 = true then (some (!t236)) else (some (!false))))) = some r := H
            have A173 := Aside0.mk A1730
            clear A1730
            by_cases c174 : t236 = true
            ·
             subst c174
             have H1 : (none) = some r := by rw [if_pos rfl] at H; exact H
             clear H
             have H := H1
             clear H1
             exact absurd H (by simp)
            ·
             replace c174 := Bool.eq_false_iff.mpr c174
             subst c174
             have H1 : ((conf_Quorum.f k1 t196 t199 t211).bind fun t237 => (if t237 = true then (some (!false)) else (some (!false)))) = some r := by rw [if_neg (show ¬ (false = true) by decide)] at H; exact H
             clear H
             have H := H1
             clear H1
             replace H := Option.bind_eq_some_iff.mp H
             obtain ⟨t237, A1750, H⟩ := H
             replace H : (if t237 = true then (some (!false)) else (some (!false))) = some r := H
             have A175 := Aside0.mk A1750
             clear A1750
             by_cases c176 : t237 = true
             ·
              subst c176
              have H1 : (some (!false)) = some r := by rw [if_pos rfl] at H; exact H
              clear H
              have H := H1
              clear H1
              obtain rfl := Option.some.inj H
              obtain ⟨Ao177, co177, eo177⟩ := Kd.R_slice HO_14.out
              subst eo177
              have hnb178 := NB174_188.out
              have hnc178 := NB188_174.out
              have hnb179 := NB174_203.out
              have hnc179 := NB203_174.out
              have hcz180_0 := C0 BK174
              have hcz180_1 := C1 BK174
              have hfz180_0 := blk_frozen BK174.out 0
              have hfz180_1 := blk_frozen BK174.out 1
              go_wp2_with (first | ((with_reducible refine gate_callee (f := 22) rfl ?_); refine goesL_ (some 86) rfl rfl Try.func22 (by kernel_rfl) rfl #[.agg #[.slice Ao21 t168.length co21, .slice Ao23 t171.length co23], .slice Ao177 t211.length co177] rfl (by (try simp only [List.map_toArray, List.map_cons, List.map_nil]); first | done | rfl | (simp only [List.length_drop, List.length_take]; rfl)) ?_; (with_reducible refine (conf_Quorum.calls k1 _ _ t168 _ _ t171 _ _ t211 false _ (RC Hq0) (RL Hq0) (RC Hq1) (RL Hq1) (RC HO_14) (RL HO_14) A66.out).mono ?_); rintro e w181 ⟨rfl, hb⟩; refine ⟨_, rfl, ?_⟩; replace HO_14 := RB HO_14 hb; replace HO_15 := RB HO_15 hb; replace Hq0 := RB Hq0 hb; replace Hq1 := RB Hq1 hb; replace Hq2 := RB Hq2 hb; replace Hq3 := RB Hq3 hb; replace Hq4 := RB Hq4 hb; replace Hq5 := RB Hq5 hb; replace BK174 := BB BK174 hb; replace BK188 := BB BK188 hb; replace BK203 := BB BK203 hb; replace HB := SB HB hb; (try clear hb); have hcz182_0 := C0 BK174; have hcz182_1 := C1 BK174; have hfz182_0 := blk_frozen BK174.out 0; have hfz182_1 := blk_frozen BK174.out 1) | (go_at_call 22; (with_reducible refine (conf_Quorum.calls k1 _ _ t168 _ _ t171 _ _ t211 false _ (RC Hq0) (RL Hq0) (RC Hq1) (RL Hq1) (RC HO_14) (RL HO_14) A66.out).mono ?_); rintro e w183 ⟨rfl, hb⟩; replace HO_14 := RB HO_14 hb; replace HO_15 := RB HO_15 hb; replace Hq0 := RB Hq0 hb; replace Hq1 := RB Hq1 hb; replace Hq2 := RB Hq2 hb; replace Hq3 := RB Hq3 hb; replace Hq4 := RB Hq4 hb; replace Hq5 := RB Hq5 hb; replace BK174 := BB BK174 hb; replace BK188 := BB BK188 hb; replace BK203 := BB BK203 hb; replace HB := SB HB hb; (try clear hb); have hnb184 := NB188_203.out; have hnc184 := NB203_188.out; have hcz185_0 := C0 BK188; have hcz185_1 := C1 BK188; have hfz185_0 := blk_frozen BK188.out 0; have hfz185_1 := blk_frozen BK188.out 1) | (go_at_call 22; (with_reducible refine (conf_Quorum.calls k1 _ _ t181 _ _ t184 _ _ t211 true _ (RC Hq2) (RL Hq2) (RC Hq3) (RL Hq3) (RC HO_14) (RL HO_14) A169.out).mono ?_); rintro e w186 ⟨rfl, hb⟩; replace HO_14 := RB HO_14 hb; replace HO_15 := RB HO_15 hb; replace Hq0 := RB Hq0 hb; replace Hq1 := RB Hq1 hb; replace Hq2 := RB Hq2 hb; replace Hq3 := RB Hq3 hb; replace Hq4 := RB Hq4 hb; replace Hq5 := RB Hq5 hb; replace BK174 := BB BK174 hb; replace BK188 := BB BK188 hb; replace BK203 := BB BK203 hb; replace HB := SB HB hb; (try clear hb); have hcz187_0 := C0 BK188; have hcz187_1 := C1 BK188; have hfz187_0 := blk_frozen BK188.out 0; have hfz187_1 := blk_frozen BK188.out 1; obtain ⟨Ao188, co188, eo188⟩ := Kd.R_slice HO_15.out; subst eo188) | (go_at_call 22; (with_reducible refine (conf_Quorum.calls k1 _ _ t181 _ _ t184 _ _ t214 false _ (RC Hq2) (RL Hq2) (RC Hq3) (RL Hq3) (RC HO_15) (RL HO_15) A171.out).mono ?_); rintro e w189 ⟨rfl, hb⟩; replace HO_14 := RB HO_14 hb; replace HO_15 := RB HO_15 hb; replace Hq0 := RB Hq0 hb; replace Hq1 := RB Hq1 hb; replace Hq2 := RB Hq2 hb; replace Hq3 := RB Hq3 hb; replace Hq4 := RB Hq4 hb; replace Hq5 := RB Hq5 hb; replace BK174 := BB BK174 hb; replace BK188 := BB BK188 hb; replace BK203 := BB BK203 hb; replace HB := SB HB hb; (try clear hb); have hcz190_0 := C0 BK188; have hcz190_1 := C1 BK188; have hfz190_0 := blk_frozen BK188.out 0; have hfz190_1 := blk_frozen BK188.out 1) | (go_at_call 22; (with_reducible refine (conf_Quorum.calls k1 _ _ t181 _ _ t184 _ _ t211 true _ (RC Hq2) (RL Hq2) (RC Hq3) (RL Hq3) (RC HO_14) (RL HO_14) A169.out).mono ?_); rintro e w191 ⟨rfl, hb⟩; replace HO_14 := RB HO_14 hb; replace HO_15 := RB HO_15 hb; replace Hq0 := RB Hq0 hb; replace Hq1 := RB Hq1 hb; replace Hq2 := RB Hq2 hb; replace Hq3 := RB Hq3 hb; replace Hq4 := RB Hq4 hb; replace Hq5 := RB Hq5 hb; replace BK174 := BB BK174 hb; replace BK188 := BB BK188 hb; replace BK203 := BB BK203 hb; replace HB := SB HB hb; (try clear hb); have hcz192_0 := C0 BK203; have hcz192_1 := C1 BK203; have hfz192_0 := blk_frozen BK203.out 0; have hfz192_1 := blk_frozen BK203.out 1) | (go_at_call 22; (with_reducible refine (conf_Quorum.calls k1 _ _ t196 _ _ t199 _ _ t214 false _ (RC Hq4) (RL Hq4) (RC Hq5) (RL Hq5) (RC HO_15) (RL HO_15) A173.out).mono ?_); rintro e w193 ⟨rfl, hb⟩; replace HO_14 := RB HO_14 hb; replace HO_15 := RB HO_15 hb; replace Hq0 := RB Hq0 hb; replace Hq1 := RB Hq1 hb; replace Hq2 := RB Hq2 hb; replace Hq3 := RB Hq3 hb; replace Hq4 := RB Hq4 hb; replace Hq5 := RB Hq5 hb; replace BK174 := BB BK174 hb; replace BK188 := BB BK188 hb; replace BK203 := BB BK203 hb; replace HB := SB HB hb; (try clear hb); have hcz194_0 := C0 BK203; have hcz194_1 := C1 BK203; have hfz194_0 := blk_frozen BK203.out 0; have hfz194_1 := blk_frozen BK203.out 1) | (go_at_call 22; (with_reducible refine (conf_Quorum.calls k1 _ _ t196 _ _ t199 _ _ t211 true _ (RC Hq4) (RL Hq4) (RC Hq5) (RL Hq5) (RC HO_14) (RL HO_14) A175.out).mono ?_); rintro e w195 ⟨rfl, hb⟩; replace HO_14 := RB HO_14 hb; replace HO_15 := RB HO_15 hb; replace Hq0 := RB Hq0 hb; replace Hq1 := RB Hq1 hb; replace Hq2 := RB Hq2 hb; replace Hq3 := RB Hq3 hb; replace Hq4 := RB Hq4 hb; replace Hq5 := RB Hq5 hb; replace BK174 := BB BK174 hb; replace BK188 := BB BK188 hb; replace BK203 := BB BK203 hb; replace HB := SB HB hb; (try clear hb); have hcz196_0 := C0 BK203; have hcz196_1 := C1 BK203; have hfz196_0 := blk_frozen BK203.out 0; have hfz196_1 := blk_frozen BK203.out 1))
              go_ret
              exact ⟨by first | rfl | (simp [errW_none, errW_some] <;> rfl) | (simp [*, errW_none, errW_some] <;> rfl), SW HB⟩
             ·
              replace c176 := Bool.eq_false_iff.mpr c176
              subst c176
              have H1 : (some (!false)) = some r := by rw [if_neg (show ¬ (false = true) by decide)] at H; exact H
              clear H
              have H := H1
              clear H1
              obtain rfl := Option.some.inj H
              obtain ⟨Ao198, co198, eo198⟩ := Kd.R_slice HO_14.out
              subst eo198
              have hnb199 := NB174_188.out
              have hnc199 := NB188_174.out
              have hnb200 := NB174_203.out
              have hnc200 := NB203_174.out
              have hcz201_0 := C0 BK174
              have hcz201_1 := C1 BK174
              have hfz201_0 := blk_frozen BK174.out 0
              have hfz201_1 := blk_frozen BK174.out 1
              go_wp2_with (first | ((with_reducible refine gate_callee (f := 22) rfl ?_); refine goesL_ (some 86) rfl rfl Try.func22 (by kernel_rfl) rfl #[.agg #[.slice Ao21 t168.length co21, .slice Ao23 t171.length co23], .slice Ao198 t211.length co198] rfl (by (try simp only [List.map_toArray, List.map_cons, List.map_nil]); first | done | rfl | (simp only [List.length_drop, List.length_take]; rfl)) ?_; (with_reducible refine (conf_Quorum.calls k1 _ _ t168 _ _ t171 _ _ t211 false _ (RC Hq0) (RL Hq0) (RC Hq1) (RL Hq1) (RC HO_14) (RL HO_14) A66.out).mono ?_); rintro e w202 ⟨rfl, hb⟩; refine ⟨_, rfl, ?_⟩; replace HO_14 := RB HO_14 hb; replace HO_15 := RB HO_15 hb; replace Hq0 := RB Hq0 hb; replace Hq1 := RB Hq1 hb; replace Hq2 := RB Hq2 hb; replace Hq3 := RB Hq3 hb; replace Hq4 := RB Hq4 hb; replace Hq5 := RB Hq5 hb; replace BK174 := BB BK174 hb; replace BK188 := BB BK188 hb; replace BK203 := BB BK203 hb; replace HB := SB HB hb; (try clear hb); have hcz203_0 := C0 BK174; have hcz203_1 := C1 BK174; have hfz203_0 := blk_frozen BK174.out 0; have hfz203_1 := blk_frozen BK174.out 1) | (go_at_call 22; (with_reducible refine (conf_Quorum.calls k1 _ _ t168 _ _ t171 _ _ t211 false _ (RC Hq0) (RL Hq0) (RC Hq1) (RL Hq1) (RC HO_14) (RL HO_14) A66.out).mono ?_); rintro e w204 ⟨rfl, hb⟩; replace HO_14 := RB HO_14 hb; replace HO_15 := RB HO_15 hb; replace Hq0 := RB Hq0 hb; replace Hq1 := RB Hq1 hb; replace Hq2 := RB Hq2 hb; replace Hq3 := RB Hq3 hb; replace Hq4 := RB Hq4 hb; replace Hq5 := RB Hq5 hb; replace BK174 := BB BK174 hb; replace BK188 := BB BK188 hb; replace BK203 := BB BK203 hb; replace HB := SB HB hb; (try clear hb); have hnb205 := NB188_203.out; have hnc205 := NB203_188.out; have hcz206_0 := C0 BK188; have hcz206_1 := C1 BK188; have hfz206_0 := blk_frozen BK188.out 0; have hfz206_1 := blk_frozen BK188.out 1) | (go_at_call 22; (with_reducible refine (conf_Quorum.calls k1 _ _ t181 _ _ t184 _ _ t211 true _ (RC Hq2) (RL Hq2) (RC Hq3) (RL Hq3) (RC HO_14) (RL HO_14) A169.out).mono ?_); rintro e w207 ⟨rfl, hb⟩; replace HO_14 := RB HO_14 hb; replace HO_15 := RB HO_15 hb; replace Hq0 := RB Hq0 hb; replace Hq1 := RB Hq1 hb; replace Hq2 := RB Hq2 hb; replace Hq3 := RB Hq3 hb; replace Hq4 := RB Hq4 hb; replace Hq5 := RB Hq5 hb; replace BK174 := BB BK174 hb; replace BK188 := BB BK188 hb; replace BK203 := BB BK203 hb; replace HB := SB HB hb; (try clear hb); have hcz208_0 := C0 BK188; have hcz208_1 := C1 BK188; have hfz208_0 := blk_frozen BK188.out 0; have hfz208_1 := blk_frozen BK188.out 1; obtain ⟨Ao209, co209, eo209⟩ := Kd.R_slice HO_15.out; subst eo209) | (go_at_call 22; (with_reducible refine (conf_Quorum.calls k1 _ _ t181 _ _ t184 _ _ t214 false _ (RC Hq2) (RL Hq2) (RC Hq3) (RL Hq3) (RC HO_15) (RL HO_15) A171.out).mono ?_); rintro e w210 ⟨rfl, hb⟩; replace HO_14 := RB HO_14 hb; replace HO_15 := RB HO_15 hb; replace Hq0 := RB Hq0 hb; replace Hq1 := RB Hq1 hb; replace Hq2 := RB Hq2 hb; replace Hq3 := RB Hq3 hb; replace Hq4 := RB Hq4 hb; replace Hq5 := RB Hq5 hb; replace BK174 := BB BK174 hb; replace BK188 := BB BK188 hb; replace BK203 := BB BK203 hb; replace HB := SB HB hb; (try clear hb); have hcz211_0 := C0 BK188; have hcz211_1 := C1 BK188; have hfz211_0 := blk_frozen BK188.out 0; have hfz211_1 := blk_frozen BK188.out 1) | (go_at_call 22; (with_reducible refine (conf_Quorum.calls k1 _ _ t181 _ _ t184 _ _ t211 true _ (RC Hq2) (RL Hq2) (RC Hq3) (RL Hq3) (RC HO_14) (RL HO_14) A169.out).mono ?_); rintro e w212 ⟨rfl, hb⟩; replace HO_14 := RB HO_14 hb; replace HO_15 := RB HO_15 hb; replace Hq0 := RB Hq0 hb; replace Hq1 := RB Hq1 hb; replace Hq2 := RB Hq2 hb; replace Hq3 := RB Hq3 hb; replace Hq4 := RB Hq4 hb; replace Hq5 := RB Hq5 hb; replace BK174 := BB BK174 hb; replace BK188 := BB BK188 hb; replace BK203 := BB BK203 hb; replace HB := SB HB hb; (try clear hb); have hcz213_0 := C0 BK203; have hcz213_1 := C1 BK203; have hfz213_0 := blk_frozen BK203.out 0; have hfz213_1 := blk_frozen BK203.out 1) | (go_at_call 22; (with_reducible refine (conf_Quorum.calls k1 _ _ t196 _ _ t199 _ _ t214 false _ (RC Hq4) (RL Hq4) (RC Hq5) (RL Hq5) (RC HO_15) (RL HO_15) A173.out).mono ?_); rintro e w214 ⟨rfl, hb⟩; replace HO_14 := RB HO_14 hb; replace HO_15 := RB HO_15 hb; replace Hq0 := RB Hq0 hb; replace Hq1 := RB Hq1 hb; replace Hq2 := RB Hq2 hb; replace Hq3 := RB Hq3 hb; replace Hq4 := RB Hq4 hb; replace Hq5 := RB Hq5 hb; replace BK174 := BB BK174 hb; replace BK188 := BB BK188 hb; replace BK203 := BB BK203 hb; replace HB := SB HB hb; (try clear hb); have hcz215_0 := C0 BK203; have hcz215_1 := C1 BK203; have hfz215_0 := blk_frozen BK203.out 0; have hfz215_1 := blk_frozen BK203.out 1) | (go_at_call 22; (with_reducible refine (conf_Quorum.calls k1 _ _ t196 _ _ t199 _ _ t211 false _ (RC Hq4) (RL Hq4) (RC Hq5) (RL Hq5) (RC HO_14) (RL HO_14) A175.out).mono ?_); rintro e w216 ⟨rfl, hb⟩; replace HO_14 := RB HO_14 hb; replace HO_15 := RB HO_15 hb; replace Hq0 := RB Hq0 hb; replace Hq1 := RB Hq1 hb; replace Hq2 := RB Hq2 hb; replace Hq3 := RB Hq3 hb; replace Hq4 := RB Hq4 hb; replace Hq5 := RB Hq5 hb; replace BK174 := BB BK174 hb; replace BK188 := BB BK188 hb; replace BK203 := BB BK203 hb; replace HB := SB HB hb; (try clear hb)))
              go_ret
              exact ⟨by first | rfl | (simp [errW_none, errW_some] <;> rfl) | (simp [*, errW_none, errW_some] <;> rfl), SW HB⟩
          ·
           replace c170 := Bool.eq_false_iff.mpr c170
           subst c170
           have H1 : ((conf_Quorum.f k1 t196 t199 t211).bind fun t240 => (if t240 = true then ((conf_Quorum.f k1 t196 t199 t214).bind fun t241 => (some (!t241))) else (some (!false)))) = some r := by rw [if_neg (show ¬ (false = true) by decide)] at H; exact H
           clear H
           have H := H1
           clear H1
           replace H := Option.bind_eq_some_iff.mp H
           obtain ⟨t240, A2170, H⟩ := H
           replace H : (if t240 = true then ((conf_Quorum.f k1 t196 t199 t214).bind fun t241 => (some (!t241))) else (some (!false))) = some r := H
           have A217 := Aside0.mk A2170
           clear A2170
           by_cases c218 : t240 = true
           ·
            subst c218
            have H1 : ((conf_Quorum.f k1 t196 t199 t214).bind fun t241 => (some (!t241))) = some r := by rw [if_pos rfl] at H; exact H
            clear H
            have H := H1
            clear H1
            replace H := Option.bind_eq_some_iff.mp H
            obtain ⟨t241, A2190, H⟩ := H
            replace H : (some (!t241)) = some r := H
            have A219 := Aside0.mk A2190
            clear A2190
            obtain rfl := Option.some.inj H
            obtain ⟨Ao220, co220, eo220⟩ := Kd.R_slice HO_14.out
            subst eo220
            have hnb221 := NB174_188.out
            have hnc221 := NB188_174.out
            have hnb222 := NB174_203.out
            have hnc222 := NB203_174.out
            have hcz223_0 := C0 BK174
            have hcz223_1 := C1 BK174
            have hfz223_0 := blk_frozen BK174.out 0
            have hfz223_1 := blk_frozen BK174.out 1
            go_wp2_with (first | ((with_reducible refine gate_callee (f := 22) rfl ?_); refine goesL_ (some 86) rfl rfl Try.func22 (by kernel_rfl) rfl #[.agg #[.slice Ao21 t168.length co21, .slice Ao23 t171.length co23], .slice Ao220 t211.length co220] rfl (by (try simp only [List.map_toArray, List.map_cons, List.map_nil]); first | done | rfl | (simp only [List.length_drop, List.length_take]; rfl)) ?_; (with_reducible refine (conf_Quorum.calls k1 _ _ t168 _ _ t171 _ _ t211 false _ (RC Hq0) (RL Hq0) (RC Hq1) (RL Hq1) (RC HO_14) (RL HO_14) A66.out).mono ?_); rintro e w224 ⟨rfl, hb⟩; refine ⟨_, rfl, ?_⟩; replace HO_14 := RB HO_14 hb; replace HO_15 := RB HO_15 hb; replace Hq0 := RB Hq0 hb; replace Hq1 := RB Hq1 hb; replace Hq2 := RB Hq2 hb; replace Hq3 := RB Hq3 hb; replace Hq4 := RB Hq4 hb; replace Hq5 := RB Hq5 hb; replace BK174 := BB BK174 hb; replace BK188 := BB BK188 hb; replace BK203 := BB BK203 hb; replace HB := SB HB hb; (try clear hb); have hcz225_0 := C0 BK174; have hcz225_1 := C1 BK174; have hfz225_0 := blk_frozen BK174.out 0; have hfz225_1 := blk_frozen BK174.out 1) | (go_at_call 22; (with_reducible refine (conf_Quorum.calls k1 _ _ t168 _ _ t171 _ _ t211 false _ (RC Hq0) (RL Hq0) (RC Hq1) (RL Hq1) (RC HO_14) (RL HO_14) A66.out).mono ?_); rintro e w226 ⟨rfl, hb⟩; replace HO_14 := RB HO_14 hb; replace HO_15 := RB HO_15 hb; replace Hq0 := RB Hq0 hb; replace Hq1 := RB Hq1 hb; replace Hq2 := RB Hq2 hb; replace Hq3 := RB Hq3 hb; replace Hq4 := RB Hq4 hb; replace Hq5 := RB Hq5 hb; replace BK174 := BB BK174 hb; replace BK188 := BB BK188 hb; replace BK203 := BB BK203 hb; replace HB := SB HB hb; (try clear hb); have hnb227 := NB188_203.out; have hnc227 := NB203_188.out; have hcz228_0 := C0 BK188; have hcz228_1 := C1 BK188; have hfz228_0 := blk_frozen BK188.out 0; have hfz228_1 := blk_frozen BK188.out 1) | (go_at_call 22; (with_reducible refine (conf_Quorum.calls k1 _ _ t181 _ _ t184 _ _ t211 false _ (RC Hq2) (RL Hq2) (RC Hq3) (RL Hq3) (RC HO_14) (RL HO_14) A169.out).mono ?_); rintro e w229 ⟨rfl, hb⟩; replace HO_14 := RB HO_14 hb; replace HO_15 := RB HO_15 hb; replace Hq0 := RB Hq0 hb; replace Hq1 := RB Hq1 hb; replace Hq2 := RB Hq2 hb; replace Hq3 := RB Hq3 hb; replace Hq4 := RB Hq4 hb; replace Hq5 := RB Hq5 hb; replace BK174 := BB BK174 hb; replace BK188 := BB BK188 hb; replace BK203 := BB BK203 hb; replace HB := SB HB hb; (try clear hb); have hcz230_0 := C0 BK188; have hcz230_1 := C1 BK188; have hfz230_0 := blk_frozen BK188.out 0; have hfz230_1 := blk_frozen BK188.out 1; have hcz232_0 := C0 BK203; have hcz232_1 := C1 BK203; have hfz232_0 := blk_frozen BK203.out 0; have hfz232_1 := blk_frozen BK203.out 1) | (go_at_call 22; (with_reducible refine (conf_Quorum.calls k1 _ _ t196 _ _ t199 _ _ t211 true _ (RC Hq4) (RL Hq4) (RC Hq5) (RL Hq5) (RC HO_14) (RL HO_14) A217.out).mono ?_); rintro e w233 ⟨rfl, hb⟩; replace HO_14 := RB HO_14 hb; replace HO_15 := RB HO_15 hb; replace Hq0 := RB Hq0 hb; replace Hq1 := RB Hq1 hb; replace Hq2 := RB Hq2 hb; replace Hq3 := RB Hq3 hb; replace Hq4 := RB Hq4 hb; replace Hq5 := RB Hq5 hb; replace BK174 := BB BK174 hb; replace BK188 := BB BK188 hb; replace BK203 := BB BK203 hb; replace HB := SB HB hb; (try clear hb); have hcz234_0 := C0 BK203; have hcz234_1 := C1 BK203; have hfz234_0 := blk_frozen BK203.out 0; have hfz234_1 := blk_frozen BK203.out 1; obtain ⟨Ao235, co235, eo235⟩ := Kd.R_slice HO_15.out; subst eo235) | (go_at_call 22; (with_reducible refine (conf_Quorum.calls k1 _ _ t196 _ _ t199 _ _ t214 t241 _ (RC Hq4) (RL Hq4) (RC Hq5) (RL Hq5) (RC HO_15) (RL HO_15) A219.out).mono ?_); rintro e w236 ⟨rfl, hb⟩; replace HO_14 := RB HO_14 hb; replace HO_15 := RB HO_15 hb; replace Hq0 := RB Hq0 hb; replace Hq1 := RB Hq1 hb; replace Hq2 := RB Hq2 hb; replace Hq3 := RB Hq3 hb; replace Hq4 := RB Hq4 hb; replace Hq5 := RB Hq5 hb; replace BK174 := BB BK174 hb; replace BK188 := BB BK188 hb; replace BK203 := BB BK203 hb; replace HB := SB HB hb; (try clear hb)))
            go_ret
            exact ⟨by first | rfl | (simp [errW_none, errW_some] <;> rfl) | (simp [*, errW_none, errW_some] <;> rfl), SW HB⟩
           ·
            replace c218 := Bool.eq_false_iff.mpr c218
            subst c218
            have H1 : (some (!false)) = some r := by rw [if_neg (show ¬ (false = true) by decide)] at H; exact H
            clear H
            have H := H1
            clear H1
            obtain rfl := Option.some.inj H
            obtain ⟨Ao237, co237, eo237⟩ := Kd.R_slice HO_14.out
            subst eo237
            have hnb238 := NB174_188.out
            have hnc238 := NB188_174.out
            have hnb239 := NB174_203.out
            have hnc239 := NB203_174.out
            have hcz240_0 := C0 BK174
            have hcz240_1 := C1 BK174
            have hfz240_0 := blk_frozen BK174.out 0
            have hfz240_1 := blk_frozen BK174.out 1
            go_wp2_with (first | ((with_reducible refine gate_callee (f := 22) rfl ?_); refine goesL_ (some 86) rfl rfl Try.func22 (by kernel_rfl) rfl #[.agg #[.slice Ao21 t168.length co21, .slice Ao23 t171.length co23], .slice Ao237 t211.length co237] rfl (by (try simp only [List.map_toArray, List.map_cons, List.map_nil]); first | done | rfl | (simp only [List.length_drop, List.length_take]; rfl)) ?_; (with_reducible refine (conf_Quorum.calls k1 _ _ t168 _ _ t171 _ _ t211 false _ (RC Hq0) (RL Hq0) (RC Hq1) (RL Hq1) (RC HO_14) (RL HO_14) A66.out).mono ?_); rintro e w241 ⟨rfl, hb⟩; refine ⟨_, rfl, ?_⟩; replace HO_14 := RB HO_14 hb; replace HO_15 := RB HO_15 hb; replace Hq0 := RB Hq0 hb; replace Hq1 := RB Hq1 hb; replace Hq2 := RB Hq2 hb; replace Hq3 := RB Hq3 hb; replace Hq4 := RB Hq4 hb; replace Hq5 := RB Hq5 hb; replace BK174 := BB BK174 hb; replace BK188 := BB BK188 hb; replace BK203 := BB BK203 hb; replace HB := SB HB hb; (try clear hb); have hcz242_0 := C0 BK174; have hcz242_1 := C1 BK174; have hfz242_0 := blk_frozen BK174.out 0; have hfz242_1 := blk_frozen BK174.out 1) | (go_at_call 22; (with_reducible refine (conf_Quorum.calls k1 _ _ t168 _ _ t171 _ _ t211 false _ (RC Hq0) (RL Hq0) (RC Hq1) (RL Hq1) (RC HO_14) (RL HO_14) A66.out).mono ?_); rintro e w243 ⟨rfl, hb⟩; replace HO_14 := RB HO_14 hb; replace HO_15 := RB HO_15 hb; replace Hq0 := RB Hq0 hb; replace Hq1 := RB Hq1 hb; replace Hq2 := RB Hq2 hb; replace Hq3 := RB Hq3 hb; replace Hq4 := RB Hq4 hb; replace Hq5 := RB Hq5 hb; replace BK174 := BB BK174 hb; replace BK188 := BB BK188 hb; replace BK203 := BB BK203 hb; replace HB := SB HB hb; (try clear hb); have hnb244 := NB188_203.out; have hnc244 := NB203_188.out; have hcz245_0 := C0 BK188; have hcz245_1 := C1 BK188; have hfz245_0 := blk_frozen BK188.out 0; have hfz245_1 := blk_frozen BK188.out 1) | (go_at_call 22; (with_reducible refine (conf_Quorum.calls k1 _ _ t181 _ _ t184 _ _ t211 false _ (RC Hq2) (RL Hq2) (RC Hq3) (RL Hq3) (RC HO_14) (RL HO_14) A169.out).mono ?_); rintro e w246 ⟨rfl, hb⟩; replace HO_14 := RB HO_14 hb; replace HO_15 := RB HO_15 hb; replace Hq0 := RB Hq0 hb; replace Hq1 := RB Hq1 hb; replace Hq2 := RB Hq2 hb; replace Hq3 := RB Hq3 hb; replace Hq4 := RB Hq4 hb; replace Hq5 := RB Hq5 hb; replace BK174 := BB BK174 hb; replace BK188 := BB BK188 hb; replace BK203 := BB BK203 hb; replace HB := SB HB hb; (try clear hb); have hcz247_0 := C0 BK188; have hcz247_1 := C1 BK188; have hfz247_0 := blk_frozen BK188.out 0; have hfz247_1 := blk_frozen BK188.out 1; have hcz249_0 := C0 BK203; have hcz249_1 := C1 BK203; have hfz249_0 := blk_frozen BK203.out 0; have hfz249_1 := blk_frozen BK203.out 1) | (go_at_call 22; (with_reducible refine (conf_Quorum.calls k1 _ _ t196 _ _ t199 _ _ t211 false _ (RC Hq4) (RL Hq4) (RC Hq5) (RL Hq5) (RC HO_14) (RL HO_14) A217.out).mono ?_); rintro e w250 ⟨rfl, hb⟩; replace HO_14 := RB HO_14 hb; replace HO_15 := RB HO_15 hb; replace Hq0 := RB Hq0 hb; replace Hq1 := RB Hq1 hb; replace Hq2 := RB Hq2 hb; replace Hq3 := RB Hq3 hb; replace Hq4 := RB Hq4 hb; replace Hq5 := RB Hq5 hb; replace BK174 := BB BK174 hb; replace BK188 := BB BK188 hb; replace BK203 := BB BK203 hb; replace HB := SB HB hb; (try clear hb)))
            go_ret
            exact ⟨by first | rfl | (simp [errW_none, errW_some] <;> rfl) | (simp [*, errW_none, errW_some] <;> rfl), SW HB⟩
    ·
     replace c15 := Bool.eq_false_iff.mpr c15
     subst c15
     have H1 : (none) = some r := by rw [if_neg (show ¬ (false = true) by decide)] at H; exact H
     clear H
     have H := H1
     clear H1
     exact absurd H (by simp)
   ·
    rw [if_neg c12] at H
    have c12b0 : (t202 == 0) = false := beq_eq_false_iff_ne.mpr c12
    have c12b1 : (t202 != 0) = true := bne_iff_ne.mpr c12
    exact absurd H (by simp)
  ·
   rw [if_neg c10] at H
   have c10b0 : (t187 == 0) = false := beq_eq_false_iff_ne.mpr c10
   have c10b1 : (t187 != 0) = true := bne_iff_ne.mpr c10
   by_cases c251 : t187 = 7
   ·
    rw [if_pos c251] at H
    have c251b0 : (t187 == 7) = true := beq_iff_eq.mpr c251
    have c251b1 : (t187 != 7) = false := bne_eq_false_iff_eq.mpr c251
    clear c251
    replace H := Option.bind_eq_some_iff.mp H
    obtain ⟨⟨t189, t192⟩, A2520, H⟩ := H
    replace H : ((conf_Same.f k t168 t171 t189 t192).bind fun t195 => (some t195)) = some r := H
    have A252 := Aside0.mk A2520
    clear A2520
    replace H := Option.bind_eq_some_iff.mp H
    obtain ⟨t195, A2530, H⟩ := H
    replace H : (some t195) = some r := H
    have A253 := Aside0.mk A2530
    clear A2530
    obtain rfl := Option.some.inj H
    go_enter Try.func9, Try.ntmps9
    try go_wp2_with (first | ((with_reducible refine gate_callee (f := 20) rfl ?_); refine goesL_ (some 19) rfl rfl Try.func20 (by kernel_rfl) rfl #[] rfl (by (try simp only [List.map_toArray, List.map_cons, List.map_nil]); first | done | rfl | (simp only [List.length_drop, List.length_take]; rfl)) ?_; (with_reducible refine (synodallaw8_known.calls k  true _ A5.out).mono ?_); rintro e w254 ⟨rfl, hb⟩; refine ⟨_, rfl, ?_⟩; replace HB := SB HB hb; (try clear hb)) | ((with_reducible refine gate_callee (f := 21) rfl ?_); refine goesL_ (some 22) rfl rfl Try.func21 (by kernel_rfl) rfl #[.int .i64 a0] rfl (by (try simp only [List.map_toArray, List.map_cons, List.map_nil]); first | done | rfl | (simp only [List.length_drop, List.length_take]; rfl)) ?_; (with_reducible refine (synodallaw8_Plain.calls k a0 t168 t171 _ A7.out).mono ?_); rintro e w255 ⟨v169, v172, rfl, ho0, ho1, hb⟩; refine ⟨_, rfl, ?_⟩; have n0_ := Aside0.mk (Kd.R_lower ho0 (below_size (SW HB))); have n1_ := Aside0.mk (Kd.R_lower ho1 (below_size (SW HB))); have n2_ := SB HB hb; clear HB; have HO170 := n0_; have HO173 := n1_; have HB := n2_; clear n0_ n1_ n2_; (try clear hb); (try clear ho0); (try clear ho1)) | ((with_reducible refine gate_dst (N := 9) rfl ?_); refine box_event ?hg (N := 9) ?hd (cs := #[.slice none 0 0, .slice none 0 0]) (t := 42) ?hr ?_; (case hd => rfl); (case hg => rfl); (case hr => first | (go_simp; done) | (go_simp; rfl)); intro gb174 hg w256 hbox hb; have n0_ := RB HO170 hb; have n1_ := RB HO173 hb; have n2_ := SB HB hb; have n3_ := Aside0.mk (hbox); have n4_ := Aside0.mk ((by rw [hg]; exact (below_size (SW HB)) : w.heap.size ≤ gb174)); have n5_ := Aside0.mk ((by rw [hg]; exact (below_size (SW HB)) : w.heap.size ≤ gb174)); clear HO170; clear HO173; clear HB; have HO170 := n0_; have HO173 := n1_; have HB := n2_; have BK174 := n3_; have GW174 := n4_; have GE174 := n5_; clear n0_ n1_ n2_ n3_ n4_ n5_; clear hb hbox hg; obtain ⟨Ao257, co257, eo257⟩ := Kd.R_slice HO170.out; subst eo257; have hcz258_0 := C0 BK174; have hcz258_1 := C1 BK174; have hfz258_0 := blk_frozen BK174.out 0; have hfz258_1 := blk_frozen BK174.out 1; obtain ⟨Ao259, co259, eo259⟩ := Kd.R_slice HO173.out; subst eo259))
    have n0_ : Aside0 (Kd.R (Kd.int .i64) 3 ((w256.setCell ⟨gb174, 0, none⟩ (.slice Ao257 t168.length co257)).setCell ⟨gb174, 1, none⟩ (.slice Ao259 t171.length co259)) w.heap.size (fun k_ => some k_ ≠ (.slice Ao259 t171.length co259 : Value).ownBlock) (.slice Ao257 t168.length co257) t168) := ⟨RX (Kd.R_mono (Kd.R_far (p := ⟨gb174, 1, none⟩) (Kd.R_far (p := ⟨gb174, 0, none⟩) (Kd.R_types HO170.out BK174.out (by decide)) (fun _ hk => hk.2) (.slice Ao257 t168.length co257)) (fun _ hk => hk.2) (.slice Ao259 t171.length co259)) (fun _ hk => hk.1))⟩
    have n1_ : Aside0 (Kd.R (Kd.int .i64) 3 ((w256.setCell ⟨gb174, 0, none⟩ (.slice Ao257 t168.length co257)).setCell ⟨gb174, 1, none⟩ (.slice Ao259 t171.length co259)) w.heap.size (fun k_ => some k_ ≠ (.slice Ao257 t168.length co257 : Value).ownBlock) (.slice Ao259 t171.length co259) t171) := ⟨RX (Kd.R_mono (Kd.R_far (p := ⟨gb174, 1, none⟩) (Kd.R_far (p := ⟨gb174, 0, none⟩) (Kd.R_types HO173.out BK174.out (by decide)) (fun _ hk => hk.2) (.slice Ao257 t168.length co257)) (fun _ hk => hk.2) (.slice Ao259 t171.length co259)) (fun _ hk => hk.1))⟩
    have n2_ : Aside0 (((w256.setCell ⟨gb174, 0, none⟩ (.slice Ao257 t168.length co257)).setCell ⟨gb174, 1, none⟩ (.slice Ao259 t171.length co259)).heap[gb174]? = some (.cells #[.slice Ao257 t168.length co257, .slice Ao259 t171.length co259] 42 (0, 0))) := ⟨by (with_reducible repeat (first | refine blk_drewN ?_ _ | refine blk_drew ?_ | refine blk_alloc ?_ _)); refine blk_put (cs := #[.slice Ao257 t168.length co257, .slice none 0 0]) ?_ 1 _ rfl; (with_reducible repeat (first | refine blk_drewN ?_ _ | refine blk_drew ?_ | refine blk_alloc ?_ _)); refine blk_put (cs := #[.slice none 0 0, .slice none 0 0]) ?_ 0 _ rfl; (with_reducible repeat (first | refine blk_drewN ?_ _ | refine blk_drew ?_ | refine blk_alloc ?_ _)); exact BK174.out⟩
    have n3_ : Aside0 (Below w.heap.size w ((w256.setCell ⟨gb174, 0, none⟩ (.slice Ao257 t168.length co257)).setCell ⟨gb174, 1, none⟩ (.slice Ao259 t171.length co259))) := ⟨SW HB⟩
    (try clear HO170)
    (try clear HO173)
    (try clear BK174)
    (try clear HB)
    generalize ((w256.setCell ⟨gb174, 0, none⟩ (.slice Ao257 t168.length co257)).setCell ⟨gb174, 1, none⟩ (.slice Ao259 t171.length co259)) = w260 at n0_ n1_ n2_ n3_ ⊢
    have HO170 := n0_
    have HO173 := n1_
    have BK174 := n2_
    have HB := n3_
    clear n0_ n1_ n2_ n3_
    have n0_ := Aside0.mk (Kd.R_drew HO170.out)
    have n1_ := Aside0.mk (Kd.R_drew HO173.out)
    have n2_ := Aside0.mk (blk_drew BK174.out)
    have n3_ := Aside0.mk (below_drew1 HB.out)
    clear HO170
    clear HO173
    clear BK174
    clear HB
    have HO170 := n0_
    have HO173 := n1_
    have BK174 := n2_
    have HB := n3_
    clear n0_ n1_ n2_ n3_
    refine start_ (n := 11) (S := fun w' => w'.cell? ⟨gb174, 0, none⟩ = some (.slice Ao257 t168.length co257) ∧ w'.cell? ⟨gb174, 1, none⟩ = some (.slice Ao259 t171.length co259)) (ds := []) #[false, false, false, false, false, false, false, false, false, false, false] (by kernel_rfl) rfl rfl ⟨(blk_cell BK174.out 0).trans rfl, (blk_cell BK174.out 1).trans rfl⟩ (fun hHeld => ?_); refine with_tabW synodallaw8_ConfMeet.tab4 synodallaw8_ConfMeet.bits4 (fun HT_ HW_ => ?_)
    generalize w260.drew = w261 at HO170 HO173 BK174 HB hHeld ⊢
    refine pure_ (i := 1) (N := some 25) (v := ?_) (a' := ?_) #[false, true, false, false, false, false, false, false, false, false, false] rfl rfl (any_of HT_.out (by kernel_rfl)) (fun _ _ _ h => h) (Or.inl ⟨by rfl, ?_⟩) ?_ ?_
    rotate_left
    ·
     intro w'
     go_simp
     with_reducible rfl
    rotate_left
    ·
     simp only [Act.put, List.setIfInBounds_toArray, List.set_cons_zero, List.set_cons_succ, i64_w, i32_w]
     rfl
    refine take_ (i := 0) (N := some 24) (v := ?_) (a' := ?_) #[true, true, false, false, false, false, false, false, false, false, false] rfl rfl (take_ofW HT_.out HW_.out (by kernel_rfl)) (fun _ _ _ h => h) (Or.inl ⟨by rfl, ?_⟩) hHeld ?_ ?_
    rotate_left
    ·
     rintro w' ⟨s0, s1⟩
     go_simp
     with_reducible rfl
    rotate_left
    ·
     simp only [Act.put, List.setIfInBounds_toArray, List.set_cons_zero, List.set_cons_succ, i64_w, i32_w]
     rfl
    refine join_ (σ := Value × Value × Value × Value × Nat) 2 #[true, true, true, true, true, true, true, true, true, false, false] (fun s_ => [(26, .agg #[s_.1, s_.2.1]), (28, .tuple #[.agg #[s_.2.2.1, s_.2.2.2.1], .int .i64 t187]), (10, .pointer (some ⟨s_.2.2.2.2, 0, none⟩)), (27, s_.2.1), (23, .tuple #[.agg #[s_.2.2.1, s_.2.2.2.1], .int .i64 t187]), (29, .agg #[s_.2.2.1, s_.2.2.2.1]), (30, .int .i64 t187)]) (fun s_ w' => (w'.cell? ⟨gb174, 0, none⟩ = some (.slice Ao257 t168.length co257) ∧ w'.cell? ⟨gb174, 1, none⟩ = some (.slice Ao259 t171.length co259)) ∧ (Kd.R (Kd.int .i64) 3 w' w.heap.size (fun k_ => some k_ ≠ (.slice Ao259 t171.length co259 : Value).ownBlock ∧ some k_ ≠ (s_.1 : Value).ownBlock ∧ some k_ ≠ (s_.2.1 : Value).ownBlock ∧ some k_ ≠ (s_.2.2.1 : Value).ownBlock ∧ some k_ ≠ (s_.2.2.2.1 : Value).ownBlock) (.slice Ao257 t168.length co257) t168) ∧ (Kd.R (Kd.int .i64) 3 w' w.heap.size (fun k_ => some k_ ≠ (.slice Ao257 t168.length co257 : Value).ownBlock ∧ some k_ ≠ (s_.1 : Value).ownBlock ∧ some k_ ≠ (s_.2.1 : Value).ownBlock ∧ some k_ ≠ (s_.2.2.1 : Value).ownBlock ∧ some k_ ≠ (s_.2.2.2.1 : Value).ownBlock) (.slice Ao259 t171.length co259) t171) ∧ (Kd.R (Kd.int .i64) 3 w' w.heap.size (fun k_ => some k_ ≠ (.slice Ao257 t168.length co257 : Value).ownBlock ∧ some k_ ≠ (.slice Ao259 t171.length co259 : Value).ownBlock ∧ some k_ ≠ (s_.2.1 : Value).ownBlock ∧ some k_ ≠ (s_.2.2.1 : Value).ownBlock ∧ some k_ ≠ (s_.2.2.2.1 : Value).ownBlock) s_.1 t175) ∧ (Kd.R (Kd.int .i64) 3 w' w.heap.size (fun k_ => some k_ ≠ (.slice Ao257 t168.length co257 : Value).ownBlock ∧ some k_ ≠ (.slice Ao259 t171.length co259 : Value).ownBlock ∧ some k_ ≠ (s_.1 : Value).ownBlock ∧ some k_ ≠ (s_.2.2.1 : Value).ownBlock ∧ some k_ ≠ (s_.2.2.2.1 : Value).ownBlock) s_.2.1 t178) ∧ (Kd.R (Kd.int .i64) 3 w' w.heap.size (fun k_ => some k_ ≠ (.slice Ao257 t168.length co257 : Value).ownBlock ∧ some k_ ≠ (.slice Ao259 t171.length co259 : Value).ownBlock ∧ some k_ ≠ (s_.1 : Value).ownBlock ∧ some k_ ≠ (s_.2.1 : Value).ownBlock ∧ some k_ ≠ (s_.2.2.2.1 : Value).ownBlock) s_.2.2.1 t181) ∧ (Kd.R (Kd.int .i64) 3 w' w.heap.size (fun k_ => some k_ ≠ (.slice Ao257 t168.length co257 : Value).ownBlock ∧ some k_ ≠ (.slice Ao259 t171.length co259 : Value).ownBlock ∧ some k_ ≠ (s_.1 : Value).ownBlock ∧ some k_ ≠ (s_.2.1 : Value).ownBlock ∧ some k_ ≠ (s_.2.2.1 : Value).ownBlock) s_.2.2.2.1 t184) ∧ (w'.heap[gb174]? = some (.cells #[.slice Ao257 t168.length co257, .slice Ao259 t171.length co259] 42 (0, 0))) ∧ (w'.heap[s_.2.2.2.2]? = some (.cells #[.slice none 0 0, .slice none 0 0] 42 (0, 0))) ∧ (w.heap.size ≤ s_.2.2.2.2) ∧ (w.heap.size ≤ s_.2.2.2.2) ∧ (gb174 ≠ s_.2.2.2.2) ∧ (s_.2.2.2.2 ≠ gb174) ∧ (Below w.heap.size w w')) ?_ ?_
    rotate_left
    ·
     intro hCont
     refine two_ (i := 2) (j := 8) (Ni := some 26) (Nj := some 10) #[true, true, true, false, false, false, false, false, false, false, false] #[true, true, false, false, false, false, false, false, true, false, false] rfl rfl rfl rfl (two_of HT_.out (by kernel_rfl)) (by decide) (by decide) (fun K hK => ?_) (fun K hK => ?_)
     ·
      skip
      refine goes_ Try.func21 (by kernel_rfl) rfl #[.int .i64 a1] (by rfl) rfl rfl (by (try simp only [List.map_toArray, List.map_cons, List.map_nil]); first | done | rfl | (simp only [List.length_drop, List.length_take]; rfl)) ?_
      with_reducible refine (synodallaw8_Plain.calls k a1 t175 t178 _ A8.out).mono ?_
      rintro e w262 ⟨v176, v179, rfl, ho0, ho1, hb⟩
      refine ⟨_, rfl, ?_⟩
      have n0_ := Aside0.mk (Kd.R_mono (Kd.R_told (Kd.R_told (Kd.R_old (RW HO170) hb) (Kd.R_base ho0)) (Kd.R_base ho1)) (fun _ h_ => h_.1))
      have n1_ := Aside0.mk (Kd.R_mono (Kd.R_told (Kd.R_told (Kd.R_old (RW HO173) hb) (Kd.R_base ho0)) (Kd.R_base ho1)) (fun _ h_ => h_.1))
      have n2_ := Aside0.mk (Kd.R_lower (Kd.R_new' (Kd.R_new' ho0 (Kd.R_lt (RW HO170))) (Kd.R_lt (RW HO173))) (below_size (SW HB)))
      have n3_ := Aside0.mk (Kd.R_lower (Kd.R_new' (Kd.R_new' ho1 (Kd.R_lt (RW HO170))) (Kd.R_lt (RW HO173))) (below_size (SW HB)))
      have n4_ := BB BK174 hb
      have n5_ := SB HB hb
      clear HO170
      clear HO173
      clear BK174
      clear HB
      have HO170 := n0_
      have HO173 := n1_
      have HO177 := n2_
      have HO180 := n3_
      have BK174 := n4_
      have HB := n5_
      clear n0_ n1_ n2_ n3_ n4_ n5_
      (try clear hb)
      (try clear hb2)
      (try clear hk)
      (try clear hi)
      (try clear ho0)
      (try clear ho1)
      obtain ⟨Ao263, co263, eo263⟩ := Kd.R_slice HO180.out
      (first | subst eo263 | (injection eo263 with f1_ f2_ f3_; have f4_ := f1_.symm; have f5_ := f3_.symm; clear f1_ f2_ f3_; subst f4_; subst f5_))
      refine hK.out _ _ ⟨(blk_cell BK174.out 0).trans rfl, (blk_cell BK174.out 1).trans rfl⟩ (fun hHeld => ?_)
      clear hK K
      refine norm_ (a' := ?_) ?_ ?_
      rotate_left
      ·
       show Act.put _ (some 26) _ = _
       simp only [Act.put, List.setIfInBounds_toArray, List.set_cons_zero, List.set_cons_succ, i64_w, i32_w]
       rfl
      refine pure_ (i := 3) (N := some 27) (v := ?_) (a' := ?_) #[true, true, true, true, false, false, false, false, false, false, false] rfl rfl (any_of HT_.out (by kernel_rfl)) (fun _ _ _ h => h) (Or.inl ⟨by rfl, ?_⟩) ?_ ?_
      rotate_left
      ·
       intro w'
       go_simp
       with_reducible rfl
      rotate_left
      ·
       simp only [Act.put, List.setIfInBounds_toArray, List.set_cons_zero, List.set_cons_succ, i64_w, i32_w]
       rfl
      refine two_ (i := 4) (j := 8) (Ni := some 28) (Nj := some 10) #[true, true, true, true, true, false, false, false, false, false, false] #[true, true, true, true, false, false, false, false, true, false, false] rfl rfl rfl rfl (two_of HT_.out (by kernel_rfl)) (by decide) (by decide) (fun K hK => ?_) (fun K hK => ?_)
      ·
       skip
       refine goes_ Try.func28 (by kernel_rfl) rfl #[.agg #[.slice Ao257 t168.length co257, .slice Ao259 t171.length co259], .slice Ao263 t178.length co263] (by rfl) rfl rfl (by (try simp only [List.map_toArray, List.map_cons, List.map_nil]); first | done | rfl | (simp only [List.length_drop, List.length_take]; rfl)) ?_
       with_reducible refine (conf_Enter.calls k _ _ t168 _ _ t171 _ _ t178 t181 t184 t187 _ ?side1 ?side2 ?side3 ?side4 ?side5 ?side6 A9.out).mono ?_
       (case side1 => exact RC HO170)
       (case side2 => exact RL HO170)
       (case side3 => exact RC HO173)
       (case side4 => exact RL HO173)
       (case side5 => exact RC HO180)
       (case side6 => exact RL HO180)
       rintro e w264 ⟨v182, v185, rfl, ho0, ho1, hb⟩
       refine ⟨_, rfl, ?_⟩
       have n0_ := Aside0.mk (Kd.R_mono (Kd.R_told (Kd.R_told (Kd.R_old (RW HO170) hb) (Kd.R_base ho0)) (Kd.R_base ho1)) (fun _ h_ => h_.1))
       have n1_ := Aside0.mk (Kd.R_mono (Kd.R_told (Kd.R_told (Kd.R_old (RW HO173) hb) (Kd.R_base ho0)) (Kd.R_base ho1)) (fun _ h_ => h_.1))
       have n2_ := Aside0.mk (Kd.R_mono (Kd.R_told (Kd.R_told (Kd.R_old (RW HO177) hb) (Kd.R_base ho0)) (Kd.R_base ho1)) (fun _ h_ => h_.1))
       have n3_ := Aside0.mk (Kd.R_mono (Kd.R_told (Kd.R_told (Kd.R_old (RW HO180) hb) (Kd.R_base ho0)) (Kd.R_base ho1)) (fun _ h_ => h_.1))
       have n4_ := Aside0.mk (Kd.R_lower (Kd.R_new' (Kd.R_new' (Kd.R_new' (Kd.R_new' ho0 (Kd.R_lt (RW HO170))) (Kd.R_lt (RW HO173))) (Kd.R_lt (RW HO177))) (Kd.R_lt (RW HO180))) (below_size (SW HB)))
       have n5_ := Aside0.mk (Kd.R_lower (Kd.R_new' (Kd.R_new' (Kd.R_new' (Kd.R_new' ho1 (Kd.R_lt (RW HO170))) (Kd.R_lt (RW HO173))) (Kd.R_lt (RW HO177))) (Kd.R_lt (RW HO180))) (below_size (SW HB)))
       have n6_ := BB BK174 hb
       have n7_ := SB HB hb
       clear HO170
       clear HO173
       clear HO177
       clear HO180
       clear BK174
       clear HB
       have HO170 := n0_
       have HO173 := n1_
       have HO177 := n2_
       have HO180 := n3_
       have HO183 := n4_
       have HO186 := n5_
       have BK174 := n6_
       have HB := n7_
       clear n0_ n1_ n2_ n3_ n4_ n5_ n6_ n7_
       (try clear hb)
       (try clear hb2)
       (try clear hk)
       (try clear hi)
       (try clear ho0)
       (try clear ho1)
       refine hK.out _ _ ⟨(blk_cell BK174.out 0).trans rfl, (blk_cell BK174.out 1).trans rfl⟩ (fun hHeld => ?_)
       clear hK K
       refine norm_ (a' := ?_) ?_ ?_
       rotate_left
       ·
        show Act.put _ (some 28) _ = _
        simp only [Act.put, List.setIfInBounds_toArray, List.set_cons_zero, List.set_cons_succ, i64_w, i32_w]
        rfl
       refine pure_ (i := 5) (N := some 23) (v := ?_) (a' := ?_) #[true, true, true, true, true, true, false, false, false, false, false] rfl rfl (any_of HT_.out (by kernel_rfl)) (fun _ _ _ h => h) (Or.inl ⟨by rfl, ?_⟩) ?_ ?_
       rotate_left
       ·
        intro w'
        go_simp
        with_reducible rfl
       rotate_left
       ·
        simp only [Act.put, List.setIfInBounds_toArray, List.set_cons_zero, List.set_cons_succ, i64_w, i32_w]
        rfl
       refine pure_ (i := 6) (N := some 29) (v := ?_) (a' := ?_) #[true, true, true, true, true, true, true, false, false, false, false] rfl rfl (any_of HT_.out (by kernel_rfl)) (fun _ _ _ h => h) (Or.inl ⟨by rfl, ?_⟩) ?_ ?_
       rotate_left
       ·
        intro w'
        go_simp
        with_reducible rfl
       rotate_left
       ·
        simp only [Act.put, List.setIfInBounds_toArray, List.set_cons_zero, List.set_cons_succ, i64_w, i32_w]
        rfl
       refine pure_ (i := 7) (N := some 30) (v := ?_) (a' := ?_) #[true, true, true, true, true, true, true, true, false, false, false] rfl rfl (any_of HT_.out (by kernel_rfl)) (fun _ _ _ h => h) (Or.inl ⟨by rfl, ?_⟩) ?_ ?_
       rotate_left
       ·
        intro w'
        go_simp
        with_reducible rfl
       rotate_left
       ·
        simp only [Act.put, List.setIfInBounds_toArray, List.set_cons_zero, List.set_cons_succ, i64_w, i32_w]
        rfl
       refine one_ (i := 8) (N := some 10) #[true, true, true, true, true, true, true, true, true, false, false] rfl rfl (one_of HT_.out (by kernel_rfl)) (by decide) (fun K hK => ?_)
       refine box_step ?hg (N := 10) ?hd (cs := #[.slice none 0 0, .slice none 0 0]) (t := 42) ?hr ?_; (case hd => rfl); (case hg => rfl); (case hr => first | (go_simp; done) | (go_simp; rfl))
       intro gb188 hg w265 hbox hb
       have n0_ := RB HO170 hb
       have n1_ := RB HO173 hb
       have n2_ := RB HO177 hb
       have n3_ := RB HO180 hb
       have n4_ := RB HO183 hb
       have n5_ := RB HO186 hb
       have n6_ := BB BK174 hb
       have n7_ := SB HB hb
       have n8_ := Aside0.mk (hbox)
       have n9_ := Aside0.mk ((by rw [hg]; exact (below_size (SW HB)) : w.heap.size ≤ gb188))
       have n10_ := Aside0.mk ((by rw [hg]; exact (below_size (SW HB)) : w.heap.size ≤ gb188))
       have n11_ := Aside0.mk ((by rw [hg]; exact Nat.ne_of_lt (blk_lt (g := gb174) (o := .cells #[.slice Ao257 t168.length co257, .slice Ao259 t171.length co259] 42 (0, 0)) (BW BK174)) : gb174 ≠ gb188))
       have n12_ := Aside0.mk ((by rw [hg]; exact Nat.ne_of_gt (blk_lt (g := gb174) (o := .cells #[.slice Ao257 t168.length co257, .slice Ao259 t171.length co259] 42 (0, 0)) (BW BK174)) : gb188 ≠ gb174))
       clear HO170
       clear HO173
       clear HO177
       clear HO180
       clear HO183
       clear HO186
       clear BK174
       clear HB
       have HO170 := n0_
       have HO173 := n1_
       have HO177 := n2_
       have HO180 := n3_
       have HO183 := n4_
       have HO186 := n5_
       have BK174 := n6_
       have HB := n7_
       have BK188 := n8_
       have GW188 := n9_
       have GE188 := n10_
       have NB174_188 := n11_
       have NB188_174 := n12_
       clear n0_ n1_ n2_ n3_ n4_ n5_ n6_ n7_ n8_ n9_ n10_ n11_ n12_
       clear hb hbox hg
       refine hK.out _ _ ⟨(blk_cell BK174.out 0).trans rfl, (blk_cell BK174.out 1).trans rfl⟩ (fun hHeld => ?_)
       clear hK K
       refine norm_ (a' := ?_) ?_ ?_
       rotate_left
       ·
        show Act.put _ (some 10) _ = _
        simp only [Act.put, List.setIfInBounds_toArray, List.set_cons_zero, List.set_cons_succ, i64_w, i32_w]
        rfl
       exact norm_ (by simp only [putAll, Act.put, List.setIfInBounds_toArray, List.set_cons_zero, List.set_cons_succ]) (hCont (v176, .slice Ao263 t178.length co263, v182, v185, gb188) _ ⟨hHeld, (RX (Kd.R_mono HO170.out (fun _ hk => ⟨hk.1.1.1.1, ⟨hk.1.1.1.2, ⟨hk.1.1.2, ⟨hk.1.2, hk.2⟩⟩⟩⟩))), (RX (Kd.R_mono HO173.out (fun _ hk => ⟨hk.1.1.1.1, ⟨hk.1.1.1.2, ⟨hk.1.1.2, ⟨hk.1.2, hk.2⟩⟩⟩⟩))), (RX (Kd.R_mono HO177.out (fun _ hk => ⟨hk.1.1.1.2, ⟨hk.1.1.2, ⟨hk.1.1.1.1, ⟨hk.1.2, hk.2⟩⟩⟩⟩))), (RX (Kd.R_mono HO180.out (fun _ hk => ⟨hk.1.1.1.2, ⟨hk.1.1.2, ⟨hk.1.1.1.1, ⟨hk.1.2, hk.2⟩⟩⟩⟩))), (RX (Kd.R_mono HO183.out (fun _ hk => ⟨hk.1.1.1.2, ⟨hk.1.1.2, ⟨hk.1.2, ⟨hk.2, hk.1.1.1.1⟩⟩⟩⟩))), (RX (Kd.R_mono HO186.out (fun _ hk => ⟨hk.1.1.1.2, ⟨hk.1.1.2, ⟨hk.1.2, ⟨hk.2, hk.1.1.1.1⟩⟩⟩⟩))), (BW BK174), (BW BK188), GW188.out, GE188.out, NB174_188.out, NB188_174.out, (SW HB)⟩)
      ·
       skip
       refine box_step ?hg (N := 10) ?hd (cs := #[.slice none 0 0, .slice none 0 0]) (t := 42) ?hr ?_; (case hd => rfl); (case hg => rfl); (case hr => first | (go_simp; done) | (go_simp; rfl))
       intro gb188 hg w263 hbox hb
       have n0_ := RB HO170 hb
       have n1_ := RB HO173 hb
       have n2_ := RB HO177 hb
       have n3_ := RB HO180 hb
       have n4_ := BB BK174 hb
       have n5_ := SB HB hb
       have n6_ := Aside0.mk (hbox)
       have n7_ := Aside0.mk ((by rw [hg]; exact (below_size (SW HB)) : w.heap.size ≤ gb188))
       have n8_ := Aside0.mk ((by rw [hg]; exact (below_size (SW HB)) : w.heap.size ≤ gb188))
       have n9_ := Aside0.mk ((by rw [hg]; exact Nat.ne_of_lt (blk_lt (g := gb174) (o := .cells #[.slice Ao257 t168.length co257, .slice Ao259 t171.length co259] 42 (0, 0)) (BW BK174)) : gb174 ≠ gb188))
       have n10_ := Aside0.mk ((by rw [hg]; exact Nat.ne_of_gt (blk_lt (g := gb174) (o := .cells #[.slice Ao257 t168.length co257, .slice Ao259 t171.length co259] 42 (0, 0)) (BW BK174)) : gb188 ≠ gb174))
       clear HO170
       clear HO173
       clear HO177
       clear HO180
       clear BK174
       clear HB
       have HO170 := n0_
       have HO173 := n1_
       have HO177 := n2_
       have HO180 := n3_
       have BK174 := n4_
       have HB := n5_
       have BK188 := n6_
       have GW188 := n7_
       have GE188 := n8_
       have NB174_188 := n9_
       have NB188_174 := n10_
       clear n0_ n1_ n2_ n3_ n4_ n5_ n6_ n7_ n8_ n9_ n10_
       clear hb hbox hg
       obtain ⟨Ao264, co264, eo264⟩ := Kd.R_slice HO180.out
       (first | subst eo264 | (injection eo264 with f1_ f2_ f3_; have f4_ := f1_.symm; have f5_ := f3_.symm; clear f1_ f2_ f3_; subst f4_; subst f5_))
       refine hK.out _ _ ⟨(blk_cell BK174.out 0).trans rfl, (blk_cell BK174.out 1).trans rfl⟩ (fun hHeld => ?_)
       clear hK K
       refine norm_ (a' := ?_) ?_ ?_
       rotate_left
       ·
        show Act.put _ (some 10) _ = _
        simp only [Act.put, List.setIfInBounds_toArray, List.set_cons_zero, List.set_cons_succ, i64_w, i32_w]
        rfl
       refine one_ (i := 4) (N := some 28) #[true, true, true, true, true, false, false, false, true, false, false] rfl rfl (one_of HT_.out (by kernel_rfl)) (by decide) (fun K hK => ?_)
       refine goes_ Try.func28 (by kernel_rfl) rfl #[.agg #[.slice Ao257 t168.length co257, .slice Ao259 t171.length co259], .slice Ao264 t178.length co264] (by rfl) rfl rfl (by (try simp only [List.map_toArray, List.map_cons, List.map_nil]); first | done | rfl | (simp only [List.length_drop, List.length_take]; rfl)) ?_
       with_reducible refine (conf_Enter.calls k _ _ t168 _ _ t171 _ _ t178 t181 t184 t187 _ ?side1 ?side2 ?side3 ?side4 ?side5 ?side6 A9.out).mono ?_
       (case side1 => exact RC HO170)
       (case side2 => exact RL HO170)
       (case side3 => exact RC HO173)
       (case side4 => exact RL HO173)
       (case side5 => exact RC HO180)
       (case side6 => exact RL HO180)
       rintro e w265 ⟨v182, v185, rfl, ho0, ho1, hb⟩
       refine ⟨_, rfl, ?_⟩
       have n0_ := Aside0.mk (Kd.R_mono (Kd.R_told (Kd.R_told (Kd.R_old (RW HO170) hb) (Kd.R_base ho0)) (Kd.R_base ho1)) (fun _ h_ => h_.1))
       have n1_ := Aside0.mk (Kd.R_mono (Kd.R_told (Kd.R_told (Kd.R_old (RW HO173) hb) (Kd.R_base ho0)) (Kd.R_base ho1)) (fun _ h_ => h_.1))
       have n2_ := Aside0.mk (Kd.R_mono (Kd.R_told (Kd.R_told (Kd.R_old (RW HO177) hb) (Kd.R_base ho0)) (Kd.R_base ho1)) (fun _ h_ => h_.1))
       have n3_ := Aside0.mk (Kd.R_mono (Kd.R_told (Kd.R_told (Kd.R_old (RW HO180) hb) (Kd.R_base ho0)) (Kd.R_base ho1)) (fun _ h_ => h_.1))
       have n4_ := Aside0.mk (Kd.R_lower (Kd.R_new' (Kd.R_new' (Kd.R_new' (Kd.R_new' ho0 (Kd.R_lt (RW HO170))) (Kd.R_lt (RW HO173))) (Kd.R_lt (RW HO177))) (Kd.R_lt (RW HO180))) (below_size (SW HB)))
       have n5_ := Aside0.mk (Kd.R_lower (Kd.R_new' (Kd.R_new' (Kd.R_new' (Kd.R_new' ho1 (Kd.R_lt (RW HO170))) (Kd.R_lt (RW HO173))) (Kd.R_lt (RW HO177))) (Kd.R_lt (RW HO180))) (below_size (SW HB)))
       have n6_ := BB BK174 hb
       have n7_ := BB BK188 hb
       have n8_ := SB HB hb
       clear HO170
       clear HO173
       clear HO177
       clear HO180
       clear BK174
       clear BK188
       clear HB
       have HO170 := n0_
       have HO173 := n1_
       have HO177 := n2_
       have HO180 := n3_
       have HO183 := n4_
       have HO186 := n5_
       have BK174 := n6_
       have BK188 := n7_
       have HB := n8_
       clear n0_ n1_ n2_ n3_ n4_ n5_ n6_ n7_ n8_
       (try clear hb)
       (try clear hb2)
       (try clear hk)
       (try clear hi)
       (try clear ho0)
       (try clear ho1)
       refine hK.out _ _ ⟨(blk_cell BK174.out 0).trans rfl, (blk_cell BK174.out 1).trans rfl⟩ (fun hHeld => ?_)
       clear hK K
       refine norm_ (a' := ?_) ?_ ?_
       rotate_left
       ·
        show Act.put _ (some 28) _ = _
        simp only [Act.put, List.setIfInBounds_toArray, List.set_cons_zero, List.set_cons_succ, i64_w, i32_w]
        rfl
       refine pure_ (i := 5) (N := some 23) (v := ?_) (a' := ?_) #[true, true, true, true, true, true, false, false, true, false, false] rfl rfl (any_of HT_.out (by kernel_rfl)) (fun _ _ _ h => h) (Or.inl ⟨by rfl, ?_⟩) ?_ ?_
       rotate_left
       ·
        intro w'
        go_simp
        with_reducible rfl
       rotate_left
       ·
        simp only [Act.put, List.setIfInBounds_toArray, List.set_cons_zero, List.set_cons_succ, i64_w, i32_w]
        rfl
       refine pure_ (i := 6) (N := some 29) (v := ?_) (a' := ?_) #[true, true, true, true, true, true, true, false, true, false, false] rfl rfl (any_of HT_.out (by kernel_rfl)) (fun _ _ _ h => h) (Or.inl ⟨by rfl, ?_⟩) ?_ ?_
       rotate_left
       ·
        intro w'
        go_simp
        with_reducible rfl
       rotate_left
       ·
        simp only [Act.put, List.setIfInBounds_toArray, List.set_cons_zero, List.set_cons_succ, i64_w, i32_w]
        rfl
       refine pure_ (i := 7) (N := some 30) (v := ?_) (a' := ?_) #[true, true, true, true, true, true, true, true, true, false, false] rfl rfl (any_of HT_.out (by kernel_rfl)) (fun _ _ _ h => h) (Or.inl ⟨by rfl, ?_⟩) ?_ ?_
       rotate_left
       ·
        intro w'
        go_simp
        with_reducible rfl
       rotate_left
       ·
        simp only [Act.put, List.setIfInBounds_toArray, List.set_cons_zero, List.set_cons_succ, i64_w, i32_w]
        rfl
       exact norm_ (by simp only [putAll, Act.put, List.setIfInBounds_toArray, List.set_cons_zero, List.set_cons_succ]) (hCont (v176, .slice Ao264 t178.length co264, v182, v185, gb188) _ ⟨hHeld, (RX (Kd.R_mono HO170.out (fun _ hk => ⟨hk.1.1.1.1, ⟨hk.1.1.1.2, ⟨hk.1.1.2, ⟨hk.1.2, hk.2⟩⟩⟩⟩))), (RX (Kd.R_mono HO173.out (fun _ hk => ⟨hk.1.1.1.1, ⟨hk.1.1.1.2, ⟨hk.1.1.2, ⟨hk.1.2, hk.2⟩⟩⟩⟩))), (RX (Kd.R_mono HO177.out (fun _ hk => ⟨hk.1.1.1.2, ⟨hk.1.1.2, ⟨hk.1.1.1.1, ⟨hk.1.2, hk.2⟩⟩⟩⟩))), (RX (Kd.R_mono HO180.out (fun _ hk => ⟨hk.1.1.1.2, ⟨hk.1.1.2, ⟨hk.1.1.1.1, ⟨hk.1.2, hk.2⟩⟩⟩⟩))), (RX (Kd.R_mono HO183.out (fun _ hk => ⟨hk.1.1.1.2, ⟨hk.1.1.2, ⟨hk.1.2, ⟨hk.2, hk.1.1.1.1⟩⟩⟩⟩))), (RX (Kd.R_mono HO186.out (fun _ hk => ⟨hk.1.1.1.2, ⟨hk.1.1.2, ⟨hk.1.2, ⟨hk.2, hk.1.1.1.1⟩⟩⟩⟩))), (BW BK174), (BW BK188), GW188.out, GE188.out, NB174_188.out, NB188_174.out, (SW HB)⟩)
     ·
      skip
      refine box_step ?hg (N := 10) ?hd (cs := #[.slice none 0 0, .slice none 0 0]) (t := 42) ?hr ?_; (case hd => rfl); (case hg => rfl); (case hr => first | (go_simp; done) | (go_simp; rfl))
      intro gb188 hg w262 hbox hb
      have n0_ := RB HO170 hb
      have n1_ := RB HO173 hb
      have n2_ := BB BK174 hb
      have n3_ := SB HB hb
      have n4_ := Aside0.mk (hbox)
      have n5_ := Aside0.mk ((by rw [hg]; exact (below_size (SW HB)) : w.heap.size ≤ gb188))
      have n6_ := Aside0.mk ((by rw [hg]; exact (below_size (SW HB)) : w.heap.size ≤ gb188))
      have n7_ := Aside0.mk ((by rw [hg]; exact Nat.ne_of_lt (blk_lt (g := gb174) (o := .cells #[.slice Ao257 t168.length co257, .slice Ao259 t171.length co259] 42 (0, 0)) (BW BK174)) : gb174 ≠ gb188))
      have n8_ := Aside0.mk ((by rw [hg]; exact Nat.ne_of_gt (blk_lt (g := gb174) (o := .cells #[.slice Ao257 t168.length co257, .slice Ao259 t171.length co259] 42 (0, 0)) (BW BK174)) : gb188 ≠ gb174))
      clear HO170
      clear HO173
      clear BK174
      clear HB
      have HO170 := n0_
      have HO173 := n1_
      have BK174 := n2_
      have HB := n3_
      have BK188 := n4_
      have GW188 := n5_
      have GE188 := n6_
      have NB174_188 := n7_
      have NB188_174 := n8_
      clear n0_ n1_ n2_ n3_ n4_ n5_ n6_ n7_ n8_
      clear hb hbox hg
      refine hK.out _ _ ⟨(blk_cell BK174.out 0).trans rfl, (blk_cell BK174.out 1).trans rfl⟩ (fun hHeld => ?_)
      clear hK K
      refine norm_ (a' := ?_) ?_ ?_
      rotate_left
      ·
       show Act.put _ (some 10) _ = _
       simp only [Act.put, List.setIfInBounds_toArray, List.set_cons_zero, List.set_cons_succ, i64_w, i32_w]
       rfl
      refine one_ (i := 2) (N := some 26) #[true, true, true, false, false, false, false, false, true, false, false] rfl rfl (one_of HT_.out (by kernel_rfl)) (by decide) (fun K hK => ?_)
      refine goes_ Try.func21 (by kernel_rfl) rfl #[.int .i64 a1] (by rfl) rfl rfl (by (try simp only [List.map_toArray, List.map_cons, List.map_nil]); first | done | rfl | (simp only [List.length_drop, List.length_take]; rfl)) ?_
      with_reducible refine (synodallaw8_Plain.calls k a1 t175 t178 _ A8.out).mono ?_
      rintro e w263 ⟨v176, v179, rfl, ho0, ho1, hb⟩
      refine ⟨_, rfl, ?_⟩
      have n0_ := Aside0.mk (Kd.R_mono (Kd.R_told (Kd.R_told (Kd.R_old (RW HO170) hb) (Kd.R_base ho0)) (Kd.R_base ho1)) (fun _ h_ => h_.1))
      have n1_ := Aside0.mk (Kd.R_mono (Kd.R_told (Kd.R_told (Kd.R_old (RW HO173) hb) (Kd.R_base ho0)) (Kd.R_base ho1)) (fun _ h_ => h_.1))
      have n2_ := Aside0.mk (Kd.R_lower (Kd.R_new' (Kd.R_new' ho0 (Kd.R_lt (RW HO170))) (Kd.R_lt (RW HO173))) (below_size (SW HB)))
      have n3_ := Aside0.mk (Kd.R_lower (Kd.R_new' (Kd.R_new' ho1 (Kd.R_lt (RW HO170))) (Kd.R_lt (RW HO173))) (below_size (SW HB)))
      have n4_ := BB BK174 hb
      have n5_ := BB BK188 hb
      have n6_ := SB HB hb
      clear HO170
      clear HO173
      clear BK174
      clear BK188
      clear HB
      have HO170 := n0_
      have HO173 := n1_
      have HO177 := n2_
      have HO180 := n3_
      have BK174 := n4_
      have BK188 := n5_
      have HB := n6_
      clear n0_ n1_ n2_ n3_ n4_ n5_ n6_
      (try clear hb)
      (try clear hb2)
      (try clear hk)
      (try clear hi)
      (try clear ho0)
      (try clear ho1)
      obtain ⟨Ao264, co264, eo264⟩ := Kd.R_slice HO180.out
      (first | subst eo264 | (injection eo264 with f1_ f2_ f3_; have f4_ := f1_.symm; have f5_ := f3_.symm; clear f1_ f2_ f3_; subst f4_; subst f5_))
      refine hK.out _ _ ⟨(blk_cell BK174.out 0).trans rfl, (blk_cell BK174.out 1).trans rfl⟩ (fun hHeld => ?_)
      clear hK K
      refine norm_ (a' := ?_) ?_ ?_
      rotate_left
      ·
       show Act.put _ (some 26) _ = _
       simp only [Act.put, List.setIfInBounds_toArray, List.set_cons_zero, List.set_cons_succ, i64_w, i32_w]
       rfl
      refine pure_ (i := 3) (N := some 27) (v := ?_) (a' := ?_) #[true, true, true, true, false, false, false, false, true, false, false] rfl rfl (any_of HT_.out (by kernel_rfl)) (fun _ _ _ h => h) (Or.inl ⟨by rfl, ?_⟩) ?_ ?_
      rotate_left
      ·
       intro w'
       go_simp
       with_reducible rfl
      rotate_left
      ·
       simp only [Act.put, List.setIfInBounds_toArray, List.set_cons_zero, List.set_cons_succ, i64_w, i32_w]
       rfl
      refine one_ (i := 4) (N := some 28) #[true, true, true, true, true, false, false, false, true, false, false] rfl rfl (one_of HT_.out (by kernel_rfl)) (by decide) (fun K hK => ?_)
      refine goes_ Try.func28 (by kernel_rfl) rfl #[.agg #[.slice Ao257 t168.length co257, .slice Ao259 t171.length co259], .slice Ao264 t178.length co264] (by rfl) rfl rfl (by (try simp only [List.map_toArray, List.map_cons, List.map_nil]); first | done | rfl | (simp only [List.length_drop, List.length_take]; rfl)) ?_
      with_reducible refine (conf_Enter.calls k _ _ t168 _ _ t171 _ _ t178 t181 t184 t187 _ ?side1 ?side2 ?side3 ?side4 ?side5 ?side6 A9.out).mono ?_
      (case side1 => exact RC HO170)
      (case side2 => exact RL HO170)
      (case side3 => exact RC HO173)
      (case side4 => exact RL HO173)
      (case side5 => exact RC HO180)
      (case side6 => exact RL HO180)
      rintro e w265 ⟨v182, v185, rfl, ho0, ho1, hb⟩
      refine ⟨_, rfl, ?_⟩
      have n0_ := Aside0.mk (Kd.R_mono (Kd.R_told (Kd.R_told (Kd.R_old (RW HO170) hb) (Kd.R_base ho0)) (Kd.R_base ho1)) (fun _ h_ => h_.1))
      have n1_ := Aside0.mk (Kd.R_mono (Kd.R_told (Kd.R_told (Kd.R_old (RW HO173) hb) (Kd.R_base ho0)) (Kd.R_base ho1)) (fun _ h_ => h_.1))
      have n2_ := Aside0.mk (Kd.R_mono (Kd.R_told (Kd.R_told (Kd.R_old (RW HO177) hb) (Kd.R_base ho0)) (Kd.R_base ho1)) (fun _ h_ => h_.1))
      have n3_ := Aside0.mk (Kd.R_mono (Kd.R_told (Kd.R_told (Kd.R_old (RW HO180) hb) (Kd.R_base ho0)) (Kd.R_base ho1)) (fun _ h_ => h_.1))
      have n4_ := Aside0.mk (Kd.R_lower (Kd.R_new' (Kd.R_new' (Kd.R_new' (Kd.R_new' ho0 (Kd.R_lt (RW HO170))) (Kd.R_lt (RW HO173))) (Kd.R_lt (RW HO177))) (Kd.R_lt (RW HO180))) (below_size (SW HB)))
      have n5_ := Aside0.mk (Kd.R_lower (Kd.R_new' (Kd.R_new' (Kd.R_new' (Kd.R_new' ho1 (Kd.R_lt (RW HO170))) (Kd.R_lt (RW HO173))) (Kd.R_lt (RW HO177))) (Kd.R_lt (RW HO180))) (below_size (SW HB)))
      have n6_ := BB BK174 hb
      have n7_ := BB BK188 hb
      have n8_ := SB HB hb
      clear HO170
      clear HO173
      clear HO177
      clear HO180
      clear BK174
      clear BK188
      clear HB
      have HO170 := n0_
      have HO173 := n1_
      have HO177 := n2_
      have HO180 := n3_
      have HO183 := n4_
      have HO186 := n5_
      have BK174 := n6_
      have BK188 := n7_
      have HB := n8_
      clear n0_ n1_ n2_ n3_ n4_ n5_ n6_ n7_ n8_
      (try clear hb)
      (try clear hb2)
      (try clear hk)
      (try clear hi)
      (try clear ho0)
      (try clear ho1)
      refine hK.out _ _ ⟨(blk_cell BK174.out 0).trans rfl, (blk_cell BK174.out 1).trans rfl⟩ (fun hHeld => ?_)
      clear hK K
      refine norm_ (a' := ?_) ?_ ?_
      rotate_left
      ·
       show Act.put _ (some 28) _ = _
       simp only [Act.put, List.setIfInBounds_toArray, List.set_cons_zero, List.set_cons_succ, i64_w, i32_w]
       rfl
      refine pure_ (i := 5) (N := some 23) (v := ?_) (a' := ?_) #[true, true, true, true, true, true, false, false, true, false, false] rfl rfl (any_of HT_.out (by kernel_rfl)) (fun _ _ _ h => h) (Or.inl ⟨by rfl, ?_⟩) ?_ ?_
      rotate_left
      ·
       intro w'
       go_simp
       with_reducible rfl
      rotate_left
      ·
       simp only [Act.put, List.setIfInBounds_toArray, List.set_cons_zero, List.set_cons_succ, i64_w, i32_w]
       rfl
      refine pure_ (i := 6) (N := some 29) (v := ?_) (a' := ?_) #[true, true, true, true, true, true, true, false, true, false, false] rfl rfl (any_of HT_.out (by kernel_rfl)) (fun _ _ _ h => h) (Or.inl ⟨by rfl, ?_⟩) ?_ ?_
      rotate_left
      ·
       intro w'
       go_simp
       with_reducible rfl
      rotate_left
      ·
       simp only [Act.put, List.setIfInBounds_toArray, List.set_cons_zero, List.set_cons_succ, i64_w, i32_w]
       rfl
      refine pure_ (i := 7) (N := some 30) (v := ?_) (a' := ?_) #[true, true, true, true, true, true, true, true, true, false, false] rfl rfl (any_of HT_.out (by kernel_rfl)) (fun _ _ _ h => h) (Or.inl ⟨by rfl, ?_⟩) ?_ ?_
      rotate_left
      ·
       intro w'
       go_simp
       with_reducible rfl
      rotate_left
      ·
       simp only [Act.put, List.setIfInBounds_toArray, List.set_cons_zero, List.set_cons_succ, i64_w, i32_w]
       rfl
      exact norm_ (by simp only [putAll, Act.put, List.setIfInBounds_toArray, List.set_cons_zero, List.set_cons_succ]) (hCont (v176, .slice Ao264 t178.length co264, v182, v185, gb188) _ ⟨hHeld, (RX (Kd.R_mono HO170.out (fun _ hk => ⟨hk.1.1.1.1, ⟨hk.1.1.1.2, ⟨hk.1.1.2, ⟨hk.1.2, hk.2⟩⟩⟩⟩))), (RX (Kd.R_mono HO173.out (fun _ hk => ⟨hk.1.1.1.1, ⟨hk.1.1.1.2, ⟨hk.1.1.2, ⟨hk.1.2, hk.2⟩⟩⟩⟩))), (RX (Kd.R_mono HO177.out (fun _ hk => ⟨hk.1.1.1.2, ⟨hk.1.1.2, ⟨hk.1.1.1.1, ⟨hk.1.2, hk.2⟩⟩⟩⟩))), (RX (Kd.R_mono HO180.out (fun _ hk => ⟨hk.1.1.1.2, ⟨hk.1.1.2, ⟨hk.1.1.1.1, ⟨hk.1.2, hk.2⟩⟩⟩⟩))), (RX (Kd.R_mono HO183.out (fun _ hk => ⟨hk.1.1.1.2, ⟨hk.1.1.2, ⟨hk.1.2, ⟨hk.2, hk.1.1.1.1⟩⟩⟩⟩))), (RX (Kd.R_mono HO186.out (fun _ hk => ⟨hk.1.1.1.2, ⟨hk.1.1.2, ⟨hk.1.2, ⟨hk.2, hk.1.1.1.1⟩⟩⟩⟩))), (BW BK174), (BW BK188), GW188.out, GE188.out, NB174_188.out, NB188_174.out, (SW HB)⟩)
    rintro ⟨v176, v179, v182, v185, gb188⟩ w266 ⟨hS_, h0_, h1_, h2_, h3_, h4_, h5_, h6_, h7_, h8_, h9_, h10_, h11_, h12_⟩
    have n0_ : Aside0 (Kd.R (Kd.int .i64) 3 w266 w.heap.size (fun k_ => some k_ ≠ (.slice Ao259 t171.length co259 : Value).ownBlock ∧ some k_ ≠ (v176 : Value).ownBlock ∧ some k_ ≠ (v179 : Value).ownBlock ∧ some k_ ≠ (v182 : Value).ownBlock ∧ some k_ ≠ (v185 : Value).ownBlock) (.slice Ao257 t168.length co257) t168) := ⟨h0_⟩
    have n1_ : Aside0 (Kd.R (Kd.int .i64) 3 w266 w.heap.size (fun k_ => some k_ ≠ (.slice Ao257 t168.length co257 : Value).ownBlock ∧ some k_ ≠ (v176 : Value).ownBlock ∧ some k_ ≠ (v179 : Value).ownBlock ∧ some k_ ≠ (v182 : Value).ownBlock ∧ some k_ ≠ (v185 : Value).ownBlock) (.slice Ao259 t171.length co259) t171) := ⟨h1_⟩
    have n2_ : Aside0 (Kd.R (Kd.int .i64) 3 w266 w.heap.size (fun k_ => some k_ ≠ (.slice Ao257 t168.length co257 : Value).ownBlock ∧ some k_ ≠ (.slice Ao259 t171.length co259 : Value).ownBlock ∧ some k_ ≠ (v179 : Value).ownBlock ∧ some k_ ≠ (v182 : Value).ownBlock ∧ some k_ ≠ (v185 : Value).ownBlock) v176 t175) := ⟨h2_⟩
    have n3_ : Aside0 (Kd.R (Kd.int .i64) 3 w266 w.heap.size (fun k_ => some k_ ≠ (.slice Ao257 t168.length co257 : Value).ownBlock ∧ some k_ ≠ (.slice Ao259 t171.length co259 : Value).ownBlock ∧ some k_ ≠ (v176 : Value).ownBlock ∧ some k_ ≠ (v182 : Value).ownBlock ∧ some k_ ≠ (v185 : Value).ownBlock) v179 t178) := ⟨h3_⟩
    have n4_ : Aside0 (Kd.R (Kd.int .i64) 3 w266 w.heap.size (fun k_ => some k_ ≠ (.slice Ao257 t168.length co257 : Value).ownBlock ∧ some k_ ≠ (.slice Ao259 t171.length co259 : Value).ownBlock ∧ some k_ ≠ (v176 : Value).ownBlock ∧ some k_ ≠ (v179 : Value).ownBlock ∧ some k_ ≠ (v185 : Value).ownBlock) v182 t181) := ⟨h4_⟩
    have n5_ : Aside0 (Kd.R (Kd.int .i64) 3 w266 w.heap.size (fun k_ => some k_ ≠ (.slice Ao257 t168.length co257 : Value).ownBlock ∧ some k_ ≠ (.slice Ao259 t171.length co259 : Value).ownBlock ∧ some k_ ≠ (v176 : Value).ownBlock ∧ some k_ ≠ (v179 : Value).ownBlock ∧ some k_ ≠ (v182 : Value).ownBlock) v185 t184) := ⟨h5_⟩
    have n6_ : Aside0 (w266.heap[gb174]? = some (.cells #[.slice Ao257 t168.length co257, .slice Ao259 t171.length co259] 42 (0, 0))) := ⟨h6_⟩
    have n7_ : Aside0 (w266.heap[gb188]? = some (.cells #[.slice none 0 0, .slice none 0 0] 42 (0, 0))) := ⟨h7_⟩
    have n8_ : Aside0 (w.heap.size ≤ gb188) := ⟨h8_⟩
    have n9_ : Aside0 (w.heap.size ≤ gb188) := ⟨h9_⟩
    have n10_ : Aside0 (gb174 ≠ gb188) := ⟨h10_⟩
    have n11_ : Aside0 (gb188 ≠ gb174) := ⟨h11_⟩
    have n12_ : Aside0 (Below w.heap.size w w266) := ⟨h12_⟩
    clear HO170
    clear HO173
    clear BK174
    clear HB
    clear h0_ h1_ h2_ h3_ h4_ h5_ h6_ h7_ h8_ h9_ h10_ h11_ h12_
    have HO170 := n0_
    have HO173 := n1_
    have HO177 := n2_
    have HO180 := n3_
    have HO183 := n4_
    have HO186 := n5_
    have BK174 := n6_
    have BK188 := n7_
    have GW188 := n8_
    have GE188 := n9_
    have NB174_188 := n10_
    have NB188_174 := n11_
    have HB := n12_
    clear n0_ n1_ n2_ n3_ n4_ n5_ n6_ n7_ n8_ n9_ n10_ n11_ n12_
    have hHeld : w266.cell? ⟨gb174, 0, none⟩ = some (.slice Ao257 t168.length co257) ∧ w266.cell? ⟨gb174, 1, none⟩ = some (.slice Ao259 t171.length co259) := hS_
    obtain ⟨Ao267, co267, eo267⟩ := Kd.R_slice HO183.out
    (first | subst eo267 | (injection eo267 with f1_ f2_ f3_; have f4_ := f1_.symm; have f5_ := f3_.symm; clear f1_ f2_ f3_; subst f4_; subst f5_))
    obtain ⟨Ao269, co269, eo269⟩ := Kd.R_slice HO186.out
    (first | subst eo269 | (injection eo269 with f1_ f2_ f3_; have f4_ := f1_.symm; have f5_ := f3_.symm; clear f1_ f2_ f3_; subst f4_; subst f5_))
    refine norm_ (a' := ?_) ?_ ?_
    rotate_left
    ·
     simp only [putAll, Act.put, List.setIfInBounds_toArray, List.set_cons_zero, List.set_cons_succ]
     rfl
    refine one_ (i := 9) (N := none) #[true, true, true, true, true, true, true, true, true, true, false] rfl rfl (one_of HT_.out (by kernel_rfl)) (by decide) (fun K hK => ?_)
    have hs268 : w266.cell? ⟨gb188, 0, none⟩ = some (.slice none 0 0) := (blk_cell BK188.out 0).trans rfl
    have hfs268 := blk_frozen BK188.out 0
    have hns268_0 := NB174_188.out
    have hms268_0 := NB188_174.out
    have hs270 : w266.cell? ⟨gb188, 1, none⟩ = some (.slice none 0 0) := (blk_cell BK188.out 1).trans rfl
    have hfs270 := blk_frozen BK188.out 1
    have hns270_0 := NB174_188.out
    have hms270_0 := NB188_174.out
    refine skip_ (w1 := ?_) (by rfl) rfl ?_ ?_
    rotate_left
    ·
     go_simp
     rfl
    refine hK.out _ _ ⟨((cell_far (p := ⟨gb188, _, none⟩) NB174_188.out _).trans (((cell_far (p := ⟨gb188, _, none⟩) NB174_188.out _).trans (hHeld.1)))), ((cell_far (p := ⟨gb188, _, none⟩) NB174_188.out _).trans (((cell_far (p := ⟨gb188, _, none⟩) NB174_188.out _).trans (hHeld.2))))⟩ (fun hHeld => ?_)
    clear hK K
    refine pure_ (i := 10) (N := some 11) (v := ?_) (a' := ?_) #[true, true, true, true, true, true, true, true, true, true, true] rfl rfl (any_of HT_.out (by kernel_rfl)) (fun _ _ _ h => h) (Or.inl ⟨by rfl, ?_⟩) ?_ ?_
    rotate_left
    ·
     intro w'
     go_simp
     with_reducible rfl
    rotate_left
    ·
     simp only [Act.put, List.setIfInBounds_toArray, List.set_cons_zero, List.set_cons_succ, i64_w, i32_w]
     rfl
    refine done_ (done_of HT_.out (by kernel_rfl)) ?_
    try go_wp2
    have n0_ : Aside0 (Kd.R (Kd.int .i64) 3 ((w266.setCell ⟨gb188, 0, none⟩ (.slice Ao267 t181.length co267)).setCell ⟨gb188, 1, none⟩ (.slice Ao269 t184.length co269)) w.heap.size (fun k_ => some k_ ≠ (.slice Ao259 t171.length co259 : Value).ownBlock ∧ some k_ ≠ (v176 : Value).ownBlock ∧ some k_ ≠ (v179 : Value).ownBlock ∧ some k_ ≠ (.slice Ao267 t181.length co267 : Value).ownBlock ∧ some k_ ≠ (.slice Ao269 t184.length co269 : Value).ownBlock) (.slice Ao257 t168.length co257) t168) := ⟨RX (Kd.R_mono (Kd.R_far (p := ⟨gb188, 1, none⟩) (Kd.R_far (p := ⟨gb188, 0, none⟩) (Kd.R_types HO170.out BK188.out (by decide)) (fun _ hk => hk.2) (.slice Ao267 t181.length co267)) (fun _ hk => hk.2) (.slice Ao269 t184.length co269)) (fun _ hk => ⟨hk.1.1, ⟨hk.1.2.1, ⟨hk.1.2.2.1, ⟨hk.1.2.2.2.1, hk.1.2.2.2.2⟩⟩⟩⟩))⟩
    have n1_ : Aside0 (Kd.R (Kd.int .i64) 3 ((w266.setCell ⟨gb188, 0, none⟩ (.slice Ao267 t181.length co267)).setCell ⟨gb188, 1, none⟩ (.slice Ao269 t184.length co269)) w.heap.size (fun k_ => some k_ ≠ (.slice Ao257 t168.length co257 : Value).ownBlock ∧ some k_ ≠ (v176 : Value).ownBlock ∧ some k_ ≠ (v179 : Value).ownBlock ∧ some k_ ≠ (.slice Ao267 t181.length co267 : Value).ownBlock ∧ some k_ ≠ (.slice Ao269 t184.length co269 : Value).ownBlock) (.slice Ao259 t171.length co259) t171) := ⟨RX (Kd.R_mono (Kd.R_far (p := ⟨gb188, 1, none⟩) (Kd.R_far (p := ⟨gb188, 0, none⟩) (Kd.R_types HO173.out BK188.out (by decide)) (fun _ hk => hk.2) (.slice Ao267 t181.length co267)) (fun _ hk => hk.2) (.slice Ao269 t184.length co269)) (fun _ hk => ⟨hk.1.1, ⟨hk.1.2.1, ⟨hk.1.2.2.1, ⟨hk.1.2.2.2.1, hk.1.2.2.2.2⟩⟩⟩⟩))⟩
    have n2_ : Aside0 (Kd.R (Kd.int .i64) 3 ((w266.setCell ⟨gb188, 0, none⟩ (.slice Ao267 t181.length co267)).setCell ⟨gb188, 1, none⟩ (.slice Ao269 t184.length co269)) w.heap.size (fun k_ => some k_ ≠ (.slice Ao257 t168.length co257 : Value).ownBlock ∧ some k_ ≠ (.slice Ao259 t171.length co259 : Value).ownBlock ∧ some k_ ≠ (v179 : Value).ownBlock ∧ some k_ ≠ (.slice Ao267 t181.length co267 : Value).ownBlock ∧ some k_ ≠ (.slice Ao269 t184.length co269 : Value).ownBlock) v176 t175) := ⟨RX (Kd.R_mono (Kd.R_far (p := ⟨gb188, 1, none⟩) (Kd.R_far (p := ⟨gb188, 0, none⟩) (Kd.R_types HO177.out BK188.out (by decide)) (fun _ hk => hk.2) (.slice Ao267 t181.length co267)) (fun _ hk => hk.2) (.slice Ao269 t184.length co269)) (fun _ hk => ⟨hk.1.1, ⟨hk.1.2.1, ⟨hk.1.2.2.1, ⟨hk.1.2.2.2.1, hk.1.2.2.2.2⟩⟩⟩⟩))⟩
    have n3_ : Aside0 (Kd.R (Kd.int .i64) 3 ((w266.setCell ⟨gb188, 0, none⟩ (.slice Ao267 t181.length co267)).setCell ⟨gb188, 1, none⟩ (.slice Ao269 t184.length co269)) w.heap.size (fun k_ => some k_ ≠ (.slice Ao257 t168.length co257 : Value).ownBlock ∧ some k_ ≠ (.slice Ao259 t171.length co259 : Value).ownBlock ∧ some k_ ≠ (v176 : Value).ownBlock ∧ some k_ ≠ (.slice Ao267 t181.length co267 : Value).ownBlock ∧ some k_ ≠ (.slice Ao269 t184.length co269 : Value).ownBlock) v179 t178) := ⟨RX (Kd.R_mono (Kd.R_far (p := ⟨gb188, 1, none⟩) (Kd.R_far (p := ⟨gb188, 0, none⟩) (Kd.R_types HO180.out BK188.out (by decide)) (fun _ hk => hk.2) (.slice Ao267 t181.length co267)) (fun _ hk => hk.2) (.slice Ao269 t184.length co269)) (fun _ hk => ⟨hk.1.1, ⟨hk.1.2.1, ⟨hk.1.2.2.1, ⟨hk.1.2.2.2.1, hk.1.2.2.2.2⟩⟩⟩⟩))⟩
    have n4_ : Aside0 (Kd.R (Kd.int .i64) 3 ((w266.setCell ⟨gb188, 0, none⟩ (.slice Ao267 t181.length co267)).setCell ⟨gb188, 1, none⟩ (.slice Ao269 t184.length co269)) w.heap.size (fun k_ => some k_ ≠ (.slice Ao257 t168.length co257 : Value).ownBlock ∧ some k_ ≠ (.slice Ao259 t171.length co259 : Value).ownBlock ∧ some k_ ≠ (v176 : Value).ownBlock ∧ some k_ ≠ (v179 : Value).ownBlock ∧ some k_ ≠ (.slice Ao269 t184.length co269 : Value).ownBlock) (.slice Ao267 t181.length co267) t181) := ⟨RX (Kd.R_mono (Kd.R_far (p := ⟨gb188, 1, none⟩) (Kd.R_far (p := ⟨gb188, 0, none⟩) (Kd.R_types HO183.out BK188.out (by decide)) (fun _ hk => hk.2) (.slice Ao267 t181.length co267)) (fun _ hk => hk.2) (.slice Ao269 t184.length co269)) (fun _ hk => ⟨hk.1.1, ⟨hk.1.2.1, ⟨hk.1.2.2.1, ⟨hk.1.2.2.2.1, hk.1.2.2.2.2⟩⟩⟩⟩))⟩
    have n5_ : Aside0 (Kd.R (Kd.int .i64) 3 ((w266.setCell ⟨gb188, 0, none⟩ (.slice Ao267 t181.length co267)).setCell ⟨gb188, 1, none⟩ (.slice Ao269 t184.length co269)) w.heap.size (fun k_ => some k_ ≠ (.slice Ao257 t168.length co257 : Value).ownBlock ∧ some k_ ≠ (.slice Ao259 t171.length co259 : Value).ownBlock ∧ some k_ ≠ (v176 : Value).ownBlock ∧ some k_ ≠ (v179 : Value).ownBlock ∧ some k_ ≠ (.slice Ao267 t181.length co267 : Value).ownBlock) (.slice Ao269 t184.length co269) t184) := ⟨RX (Kd.R_mono (Kd.R_far (p := ⟨gb188, 1, none⟩) (Kd.R_far (p := ⟨gb188, 0, none⟩) (Kd.R_types HO186.out BK188.out (by decide)) (fun _ hk => hk.2) (.slice Ao267 t181.length co267)) (fun _ hk => hk.2) (.slice Ao269 t184.length co269)) (fun _ hk => ⟨hk.1.1, ⟨hk.1.2.1, ⟨hk.1.2.2.1, ⟨hk.1.2.2.2.1, hk.1.2.2.2.2⟩⟩⟩⟩))⟩
    have n6_ : Aside0 (((w266.setCell ⟨gb188, 0, none⟩ (.slice Ao267 t181.length co267)).setCell ⟨gb188, 1, none⟩ (.slice Ao269 t184.length co269)).heap[gb174]? = some (.cells #[.slice Ao257 t168.length co257, .slice Ao259 t171.length co259] 42 (0, 0))) := ⟨by (with_reducible repeat (first | refine blk_drewN ?_ _ | refine blk_drew ?_ | refine blk_alloc ?_ _)); refine blk_far ?_ NB174_188.out _; (with_reducible repeat (first | refine blk_drewN ?_ _ | refine blk_drew ?_ | refine blk_alloc ?_ _)); refine blk_far ?_ NB174_188.out _; (with_reducible repeat (first | refine blk_drewN ?_ _ | refine blk_drew ?_ | refine blk_alloc ?_ _)); exact BK174.out⟩
    have n7_ : Aside0 (((w266.setCell ⟨gb188, 0, none⟩ (.slice Ao267 t181.length co267)).setCell ⟨gb188, 1, none⟩ (.slice Ao269 t184.length co269)).heap[gb188]? = some (.cells #[.slice Ao267 t181.length co267, .slice Ao269 t184.length co269] 42 (0, 0))) := ⟨by (with_reducible repeat (first | refine blk_drewN ?_ _ | refine blk_drew ?_ | refine blk_alloc ?_ _)); refine blk_put (cs := #[.slice Ao267 t181.length co267, .slice none 0 0]) ?_ 1 _ rfl; (with_reducible repeat (first | refine blk_drewN ?_ _ | refine blk_drew ?_ | refine blk_alloc ?_ _)); refine blk_put (cs := #[.slice none 0 0, .slice none 0 0]) ?_ 0 _ rfl; (with_reducible repeat (first | refine blk_drewN ?_ _ | refine blk_drew ?_ | refine blk_alloc ?_ _)); exact BK188.out⟩
    have n8_ : Aside0 (Below w.heap.size w ((w266.setCell ⟨gb188, 0, none⟩ (.slice Ao267 t181.length co267)).setCell ⟨gb188, 1, none⟩ (.slice Ao269 t184.length co269))) := ⟨SW HB⟩
    (try clear HO170)
    (try clear HO173)
    (try clear HO177)
    (try clear HO180)
    (try clear HO183)
    (try clear HO186)
    (try clear BK174)
    (try clear BK188)
    (try clear HB)
    generalize ((w266.setCell ⟨gb188, 0, none⟩ (.slice Ao267 t181.length co267)).setCell ⟨gb188, 1, none⟩ (.slice Ao269 t184.length co269)) = w271 at n0_ n1_ n2_ n3_ n4_ n5_ n6_ n7_ n8_ ⊢
    have HO170 := n0_
    have HO173 := n1_
    have HO177 := n2_
    have HO180 := n3_
    have HO183 := n4_
    have HO186 := n5_
    have BK174 := n6_
    have BK188 := n7_
    have HB := n8_
    clear n0_ n1_ n2_ n3_ n4_ n5_ n6_ n7_ n8_
    have n0_ := Aside0.mk (Kd.R_drew HO170.out)
    have n1_ := Aside0.mk (Kd.R_drew HO173.out)
    have n2_ := Aside0.mk (Kd.R_drew HO177.out)
    have n3_ := Aside0.mk (Kd.R_drew HO180.out)
    have n4_ := Aside0.mk (Kd.R_drew HO183.out)
    have n5_ := Aside0.mk (Kd.R_drew HO186.out)
    have n6_ := Aside0.mk (blk_drew BK174.out)
    have n7_ := Aside0.mk (blk_drew BK188.out)
    have n8_ := Aside0.mk (below_drew1 HB.out)
    clear HO170
    clear HO173
    clear HO177
    clear HO180
    clear HO183
    clear HO186
    clear BK174
    clear BK188
    clear HB
    have HO170 := n0_
    have HO173 := n1_
    have HO177 := n2_
    have HO180 := n3_
    have HO183 := n4_
    have HO186 := n5_
    have BK174 := n6_
    have BK188 := n7_
    have HB := n8_
    clear n0_ n1_ n2_ n3_ n4_ n5_ n6_ n7_ n8_
    refine start_ (n := 9) (S := fun w' => w'.cell? ⟨gb174, 0, none⟩ = some (.slice Ao257 t168.length co257) ∧ w'.cell? ⟨gb174, 1, none⟩ = some (.slice Ao259 t171.length co259)) (ds := []) #[false, false, false, false, false, false, false, false, false] (by kernel_rfl) rfl rfl ⟨(blk_cell BK174.out 0).trans rfl, (blk_cell BK174.out 1).trans rfl⟩ (fun hHeld => ?_); refine with_tabW synodallaw8_ConfMeet.tab6 synodallaw8_ConfMeet.bits6 (fun HT_ HW_ => ?_)
    generalize w271.drew = w272 at HO170 HO173 HO177 HO180 HO183 HO186 BK174 BK188 HB hHeld ⊢
    refine pure_ (i := 0) (N := some 33) (v := ?_) (a' := ?_) #[true, false, false, false, false, false, false, false, false] rfl rfl (any_of HT_.out (by kernel_rfl)) (fun _ _ _ h => h) (Or.inl ⟨by rfl, ?_⟩) ?_ ?_
    rotate_left
    ·
     intro w'
     go_simp
     with_reducible rfl
    rotate_left
    ·
     simp only [Act.put, List.setIfInBounds_toArray, List.set_cons_zero, List.set_cons_succ, i64_w, i32_w]
     rfl
    refine pure_ (i := 1) (N := some 34) (v := ?_) (a' := ?_) #[true, true, false, false, false, false, false, false, false] rfl rfl (any_of HT_.out (by kernel_rfl)) (fun _ _ _ h => h) (Or.inl ⟨by rfl, ?_⟩) ?_ ?_
    rotate_left
    ·
     intro w'
     go_simp
     with_reducible rfl
    rotate_left
    ·
     simp only [Act.put, List.setIfInBounds_toArray, List.set_cons_zero, List.set_cons_succ, i64_w, i32_w]
     rfl
    refine pure_ (i := 2) (N := some 35) (v := ?_) (a' := ?_) #[true, true, true, false, false, false, false, false, false] rfl rfl (any_of HT_.out (by kernel_rfl)) (fun _ _ _ h => h) (Or.inl ⟨by rfl, ?_⟩) ?_ ?_
    rotate_left
    ·
     intro w'
     go_simp
     with_reducible rfl
    rotate_left
    ·
     simp only [Act.put, List.setIfInBounds_toArray, List.set_cons_zero, List.set_cons_succ, i64_w, i32_w]
     rfl
    refine pure_ (i := 4) (N := some 37) (v := ?_) (a' := ?_) #[true, true, true, false, true, false, false, false, false] rfl rfl (any_of HT_.out (by kernel_rfl)) (fun _ _ _ h => h) (Or.inl ⟨by rfl, ?_⟩) ?_ ?_
    rotate_left
    ·
     intro w'
     go_simp
     with_reducible rfl
    rotate_left
    ·
     simp only [Act.put, List.setIfInBounds_toArray, List.set_cons_zero, List.set_cons_succ, i64_w, i32_w]
     rfl
    refine take_ (i := 3) (N := some 36) (v := ?_) (a' := ?_) #[true, true, true, true, true, false, false, false, false] rfl rfl (take_ofW HT_.out HW_.out (by kernel_rfl)) (fun _ _ _ h => h) (Or.inl ⟨by rfl, ?_⟩) hHeld ?_ ?_
    rotate_left
    ·
     rintro w' ⟨s0, s1⟩
     go_simp
     with_reducible rfl
    rotate_left
    ·
     simp only [Act.put, List.setIfInBounds_toArray, List.set_cons_zero, List.set_cons_succ, i64_w, i32_w]
     rfl
    refine one_ (i := 5) (N := some 38) #[true, true, true, true, true, true, false, false, false] rfl rfl (one_of HT_.out (by kernel_rfl)) (by decide) (fun K hK => ?_)
    refine goes_ Try.func21 (by kernel_rfl) rfl #[.int .i64 a1] (by rfl) rfl rfl (by (try simp only [List.map_toArray, List.map_cons, List.map_nil]); first | done | rfl | (simp only [List.length_drop, List.length_take]; rfl)) ?_
    with_reducible refine (synodallaw8_Plain.calls k a1 t189 t192 _ A252.out).mono ?_
    rintro e w273 ⟨v190, v193, rfl, ho0, ho1, hb⟩
    refine ⟨_, rfl, ?_⟩
    have n0_ := Aside0.mk (Kd.R_mono (Kd.R_told (Kd.R_told (Kd.R_old (RW HO170) hb) (Kd.R_base ho0)) (Kd.R_base ho1)) (fun _ h_ => h_.1))
    have n1_ := Aside0.mk (Kd.R_mono (Kd.R_told (Kd.R_told (Kd.R_old (RW HO173) hb) (Kd.R_base ho0)) (Kd.R_base ho1)) (fun _ h_ => h_.1))
    have n2_ := Aside0.mk (Kd.R_mono (Kd.R_told (Kd.R_told (Kd.R_old (RW HO177) hb) (Kd.R_base ho0)) (Kd.R_base ho1)) (fun _ h_ => h_.1))
    have n3_ := Aside0.mk (Kd.R_mono (Kd.R_told (Kd.R_told (Kd.R_old (RW HO180) hb) (Kd.R_base ho0)) (Kd.R_base ho1)) (fun _ h_ => h_.1))
    have n4_ := Aside0.mk (Kd.R_mono (Kd.R_told (Kd.R_told (Kd.R_old (RW HO183) hb) (Kd.R_base ho0)) (Kd.R_base ho1)) (fun _ h_ => h_.1))
    have n5_ := Aside0.mk (Kd.R_mono (Kd.R_told (Kd.R_told (Kd.R_old (RW HO186) hb) (Kd.R_base ho0)) (Kd.R_base ho1)) (fun _ h_ => h_.1))
    have n6_ := Aside0.mk (Kd.R_lower (Kd.R_new' (Kd.R_new' (Kd.R_new' (Kd.R_new' (Kd.R_new' (Kd.R_new' ho0 (Kd.R_lt (RW HO170))) (Kd.R_lt (RW HO173))) (Kd.R_lt (RW HO177))) (Kd.R_lt (RW HO180))) (Kd.R_lt (RW HO183))) (Kd.R_lt (RW HO186))) (below_size (SW HB)))
    have n7_ := Aside0.mk (Kd.R_lower (Kd.R_new' (Kd.R_new' (Kd.R_new' (Kd.R_new' (Kd.R_new' (Kd.R_new' ho1 (Kd.R_lt (RW HO170))) (Kd.R_lt (RW HO173))) (Kd.R_lt (RW HO177))) (Kd.R_lt (RW HO180))) (Kd.R_lt (RW HO183))) (Kd.R_lt (RW HO186))) (below_size (SW HB)))
    have n8_ := BB BK174 hb
    have n9_ := BB BK188 hb
    have n10_ := SB HB hb
    clear HO170
    clear HO173
    clear HO177
    clear HO180
    clear HO183
    clear HO186
    clear BK174
    clear BK188
    clear HB
    have HO170 := n0_
    have HO173 := n1_
    have HO177 := n2_
    have HO180 := n3_
    have HO183 := n4_
    have HO186 := n5_
    have HO191 := n6_
    have HO194 := n7_
    have BK174 := n8_
    have BK188 := n9_
    have HB := n10_
    clear n0_ n1_ n2_ n3_ n4_ n5_ n6_ n7_ n8_ n9_ n10_
    (try clear hb)
    (try clear hb2)
    (try clear hk)
    (try clear hi)
    (try clear ho0)
    (try clear ho1)
    obtain ⟨Ao274, co274, eo274⟩ := Kd.R_slice HO191.out
    (first | subst eo274 | (injection eo274 with f1_ f2_ f3_; have f4_ := f1_.symm; have f5_ := f3_.symm; clear f1_ f2_ f3_; subst f4_; subst f5_))
    obtain ⟨Ao275, co275, eo275⟩ := Kd.R_slice HO194.out
    (first | subst eo275 | (injection eo275 with f1_ f2_ f3_; have f4_ := f1_.symm; have f5_ := f3_.symm; clear f1_ f2_ f3_; subst f4_; subst f5_))
    refine hK.out _ _ ⟨(blk_cell BK174.out 0).trans rfl, (blk_cell BK174.out 1).trans rfl⟩ (fun hHeld => ?_)
    clear hK K
    refine norm_ (a' := ?_) ?_ ?_
    rotate_left
    ·
     show Act.put _ (some 38) _ = _
     simp only [Act.put, List.setIfInBounds_toArray, List.set_cons_zero, List.set_cons_succ, i64_w, i32_w]
     rfl
    refine one_ (i := 6) (N := some 39) #[true, true, true, true, true, true, true, false, false] rfl rfl (one_of HT_.out (by kernel_rfl)) (by decide) (fun K hK => ?_)
    refine goes_ Try.func33 (by kernel_rfl) rfl #[.agg #[.slice Ao257 t168.length co257, .slice Ao259 t171.length co259], .agg #[.slice Ao274 t189.length co274, .slice Ao275 t192.length co275]] (by rfl) rfl rfl (by (try simp only [List.map_toArray, List.map_cons, List.map_nil]); first | done | rfl | (simp only [List.length_drop, List.length_take]; rfl)) ?_
    with_reducible refine (conf_Same.calls k _ _ t168 _ _ t171 _ _ t189 _ _ t192 t195 _ ?side1 ?side2 ?side3 ?side4 ?side5 ?side6 ?side7 ?side8 A253.out).mono ?_
    (case side1 => exact RC HO170)
    (case side2 => exact RL HO170)
    (case side3 => exact RC HO173)
    (case side4 => exact RL HO173)
    (case side5 => exact RC HO191)
    (case side6 => exact RL HO191)
    (case side7 => exact RC HO194)
    (case side8 => exact RL HO194)
    rintro e w276 ⟨rfl, hb⟩
    refine ⟨_, rfl, ?_⟩
    have n0_ := RB HO170 hb
    have n1_ := RB HO173 hb
    have n2_ := RB HO177 hb
    have n3_ := RB HO180 hb
    have n4_ := RB HO183 hb
    have n5_ := RB HO186 hb
    have n6_ := RB HO191 hb
    have n7_ := RB HO194 hb
    have n8_ := BB BK174 hb
    have n9_ := BB BK188 hb
    have n10_ := SB HB hb
    clear HO170
    clear HO173
    clear HO177
    clear HO180
    clear HO183
    clear HO186
    clear HO191
    clear HO194
    clear BK174
    clear BK188
    clear HB
    have HO170 := n0_
    have HO173 := n1_
    have HO177 := n2_
    have HO180 := n3_
    have HO183 := n4_
    have HO186 := n5_
    have HO191 := n6_
    have HO194 := n7_
    have BK174 := n8_
    have BK188 := n9_
    have HB := n10_
    clear n0_ n1_ n2_ n3_ n4_ n5_ n6_ n7_ n8_ n9_ n10_
    (try clear hb)
    (try clear hb2)
    (try clear hk)
    (try clear hi)
    refine hK.out _ _ ⟨(blk_cell BK174.out 0).trans rfl, (blk_cell BK174.out 1).trans rfl⟩ (fun hHeld => ?_)
    clear hK K
    refine norm_ (a' := ?_) ?_ ?_
    rotate_left
    ·
     show Act.put _ (some 39) _ = _
     simp only [Act.put, List.setIfInBounds_toArray, List.set_cons_zero, List.set_cons_succ, i64_w, i32_w]
     rfl
    refine pure_ (i := 7) (N := some 40) (v := ?_) (a' := ?_) #[true, true, true, true, true, true, true, true, false] rfl rfl (any_of HT_.out (by kernel_rfl)) (fun _ _ _ h => h) (Or.inl ⟨by rfl, ?_⟩) ?_ ?_
    rotate_left
    ·
     intro w'
     go_simp
     with_reducible rfl
    rotate_left
    ·
     simp only [Act.put, List.setIfInBounds_toArray, List.set_cons_zero, List.set_cons_succ, i64_w, i32_w]
     rfl
    refine pure_ (i := 8) (N := some 8) (v := ?_) (a' := ?_) #[true, true, true, true, true, true, true, true, true] rfl rfl (any_of HT_.out (by kernel_rfl)) (fun _ _ _ h => h) (Or.inl ⟨by rfl, ?_⟩) ?_ ?_
    rotate_left
    ·
     intro w'
     go_simp
     with_reducible rfl
    rotate_left
    ·
     simp only [Act.put, List.setIfInBounds_toArray, List.set_cons_zero, List.set_cons_succ, i64_w, i32_w]
     rfl
    refine done_ (done_of HT_.out (by kernel_rfl)) ?_
    try go_wp2
    go_ret
    exact ⟨by first | rfl | (simp [errW_none, errW_some] <;> rfl) | (simp [*, errW_none, errW_some] <;> rfl), SW HB⟩
   ·
    rw [if_neg c251] at H
    have c251b0 : (t187 == 7) = false := beq_eq_false_iff_ne.mpr c251
    have c251b1 : (t187 != 7) = true := bne_iff_ne.mpr c251
    exact absurd H (by simp)
 ·
  replace c6 := Bool.eq_false_iff.mpr c6
  subst c6
  have H1 : (none) = some r := by rw [if_neg (show ¬ (false = true) by decide)] at H; exact H
  clear H
  have H := H1
  clear H1
  exact absurd H (by simp)

/-- THE ONE PURE STATEMENT of synodallaw8_ConfMeet: yours. -/
def synodallaw8_ConfMeet.Pure : Prop := ∀ (a0 : Int) (a1 : Int) (a2 : Int) (a3 : Int), (Lit.int .i64 a0).wf = true → (Lit.int .i64 a1).wf = true → (Lit.int .i64 a2).wf = true → (Lit.int .i64 a3).wf = true → ∃ k, synodallaw8_ConfMeet.f k a0 a1 a2 a3 = some true
theorem synodallaw8_ConfMeet.walk (P : synodallaw8_ConfMeet.Pure) (a0 : Int) (a1 : Int) (a2 : Int) (a3 : Int) (w : World) (w0 : (Lit.int .i64 a0).wf = true) (w1 : (Lit.int .i64 a1).wf = true) (w2 : (Lit.int .i64 a2).wf = true) (w3 : (Lit.int .i64 a3).wf = true) :
  Calls Try.prog 9 #[.int .i64 a0, .int .i64 a1, .int .i64 a2, .int .i64 a3] w fun e w' => e = .returned (.bool true) ∧ Below w.heap.size w w' := by
 obtain ⟨k, h⟩ := P a0 a1 a2 a3 w0 w1 w2 w3
 refine (synodallaw8_ConfMeet.calls k a0 a1 a2 a3 true w h).mono ?_
 rintro e w' ⟨rfl, hd⟩
 exact ⟨rfl, hd⟩

end Go.Proofs.Ytimeknpdgloenaa.XConfMeet
