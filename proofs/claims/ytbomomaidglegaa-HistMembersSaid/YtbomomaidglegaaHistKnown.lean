/- Logs as a law has them, and the chapter's example. -/
import Derived.Test.YtbomomaidglegaaHistEntry
import Derived.Deep.LoopGhost
import Derived.WalkSpells
namespace Go.Proofs.Ytbomomaidglegaa.Hist
open Go Go.RowKit Go.Proofs.Ytbomomaidglegaa.XHist Go.Proofs.YtbomomaidglegaaW.PrintWords Go.Proofs.YtbomomaidglegaaW.PrintLast Go.Proofs.YtbomomaidglegaaW.PrintMore
set_option linter.unusedVariables false
set_option linter.unusedSimpArgs false


theorem IsH.tight {B : Nat} {W : World} {g : Nat} {F : Nat → Prop} {b : Int} {l : List S105} (h : IsH B W g F b l) : IsH B W g (fun q => F q ∧ q < W.heap.size) b l := by
  obtain ⟨v, hb, hg, hF, hR, h0, h1⟩ := h
  exact ⟨v, hb, ⟨hg, blk_lt hb⟩, fun q hq => hF q hq.1, Kd.R_mono (Kd.R_bound hR) (fun q hq => ⟨⟨hq.1.1, hq.2.2.1⟩, hq.1.2⟩), h0, h1⟩

/-- A log of a call's own, behind w0. -/
def Live (w0 W : World) (g : Nat) (F : Nat → Prop) (b : Int) (l : List S105) : Prop := IsH w0.heap.size W g F b l ∧ (∀ q, F q → q < W.heap.size) ∧ Below w0.heap.size w0 W

theorem Live.lt {w0 W : World} {g : Nat} {F : Nat → Prop} {b : Int} {l : List S105} (h : Live w0 W g F b l) : ∀ q, F q → q < W.heap.size := h.2.1
theorem Live.ge {w0 W : World} {g : Nat} {F : Nat → Prop} {b : Int} {l : List S105} (h : Live w0 W g F b l) : ∀ q, F q → w0.heap.size ≤ q := h.1.ge
theorem Live.below {w0 W W' : World} {g : Nat} {F : Nat → Prop} {b : Int} {l : List S105} (h : Live w0 W g F b l) (hb : Below W.heap.size W W') : Live w0 W' g F b l :=
  ⟨h.1.below hb, fun q hq => Nat.lt_of_lt_of_le (h.2.1 q hq) hb.size, below_then h.2.2 h.2.2.size hb⟩
theorem Live.kept {w0 W W' : World} {g : Nat} {F F' : Nat → Prop} {b : Int} {l : List S105} (h : Live w0 W g F b l) (hk : Kept F' W W') (hd : ∀ q, F q → ¬ F' q) (hg : ∀ q, F' q → w0.heap.size ≤ q) : Live w0 W' g F b l :=
  ⟨h.1.kept hk hd, fun q hq => Nat.lt_of_lt_of_le (h.2.1 q hq) hk.size, below_kept h.2.2 h.2.2.size hg hk⟩
theorem Live.drawn {w0 W W' : World} {g : Nat} {F : Nat → Prop} {b : Int} {l : List S105} (h : Live w0 W g F b l) (hd : Drawn0 W W') : Live w0 W' g F b l := h.below hd.below
theorem Live.drewN {w0 W : World} {g : Nat} {F : Nat → Prop} {b : Int} {l : List S105} (h : Live w0 W g F b l) (n : Nat) : Live w0 (W.drewN n) g F b l := h.below (pw_below_drewN (Below.refl _ _) n)
theorem Live.drew {w0 W : World} {g : Nat} {F : Nat → Prop} {b : Int} {l : List S105} (h : Live w0 W g F b l) : Live w0 W.drew g F b l := h.below (below_drew (Below.refl _ _))
theorem Live.alloc {w0 W : World} {g : Nat} {F : Nat → Prop} {b : Int} {l : List S105} (h : Live w0 W g F b l) (o : Obj) : Live w0 (W.alloc o) g F b l := h.below (below_alloc (Below.refl _ _) o)
theorem Live.bounds {w0 W : World} {g : Nat} {F : Nat → Prop} {b : Int} {l : List S105} (h : Live w0 W g F b l) : 0 ≤ b ∧ b + (l.length : Int) ≤ 64 := h.1.bounds

theorem stable_of_R {α : Type} {d : Kd α} {e base n c : Nat} {w : World} {A : Option Addr} {xs : List α} {F : Nat → Prop} (h : d.R e w base (fun _ => True) (.slice A n c) xs) (hF : ∀ q, F q → q < base) : ∀ W', Kept F w W' → d.C W' A xs.length xs :=
  fun W' hk => (Kd.R_reads' (R_kept_ (Kd.R_mono (Kd.R_bound h) (ok' := fun q => base ≤ q) (fun q hq => hq.2.1)) hk (fun q hb hf => by have := hF q hf; omega))).2.2
theorem stable_of_C {α : Type} {d : Kd α} {n : Nat} {w0 W : World} {A : Option Addr} {xs : List α} {F : Nat → Prop} (h : d.C w0 A n xs) (hb : Below w0.heap.size w0 W) (hF : ∀ q, F q → w0.heap.size ≤ q) : ∀ W', Kept F W W' → d.C W' A n xs :=
  fun W' hk => Kd.C_below h (below_kept hb hb.size hF hk)

theorem new_live (w0 : World) {W : World} (b : Int) (h0 : 0 ≤ b) (h1 : b ≤ 64) (hB : Below w0.heap.size w0 W) :
    Calls Try.prog 31 #[.int .i64 b] W fun e w' => ∃ (g : Nat) (F : Nat → Prop), e = .returned (.pointer (some ⟨g, 0, none⟩)) ∧ Live w0 w' g F b [] ∧ Below W.heap.size W w' ∧ ∀ q, F q → W.heap.size ≤ q :=
  (new_calls W b h0 h1).mono (by
    rintro e w' ⟨rfl, hI, hb⟩
    have hI' : IsH w0.heap.size w' W.heap.size (fun q => q = W.heap.size) b [] := by
      obtain ⟨v, hv, hg, hF, hR, r⟩ := hI
      exact ⟨v, hv, hg, fun q hq => Nat.le_trans hB.size (hF q hq), Kd.R_lower hR hB.size, r⟩
    exact ⟨_, _, rfl, ⟨hI'.tight, fun q hq => hq.2, below_then hB hB.size hb⟩, hb, fun q hq => Nat.le_of_eq hq.1.symm⟩)

theorem append_live {w0 W : World} {g : Nat} {F : Nat → Prop} {b : Int} {l : List S105} (h : Live w0 W g F b l) (t : Int) (A : Option Addr) (c : Nat) (es : List S77)
    (hE : ∀ W', Kept F W W' → Kd.C k77 W' A es.length es) (hc : es.length ≤ c) (hl : es.length < 1000000) (hm : ∀ x ∈ es, x.f4.length < 17592186044416) :
    Calls Try.prog 33 #[.pointer (some ⟨g, 0, none⟩), .int .i64 t, .slice A es.length c] W fun e w' => ∃ (F' : Nat → Prop), e = .returned (.tuple #[.int .i64 (appF b l t es).1, .int .i64 (appF b l t es).2.1]) ∧
      Live w0 w' g F' b (appF b l t es).2.2 ∧ (∀ q, F' q → F q ∨ W.heap.size ≤ q) ∧ Kept F W w' :=
  (append_calls h.1 h.2.2.size t A c es hE hc hl hm).mono (by
    rintro e w' ⟨F', rfl, hI, hF, hk⟩
    exact ⟨_, rfl, ⟨hI.tight, fun q hq => hq.2, below_kept h.2.2 h.2.2.size h.ge hk⟩, fun q hq => hF q hq.1, hk⟩)

theorem put_live {w0 W : World} {g : Nat} {F : Nat → Prop} {b : Int} {l : List S105} (h : Live w0 W g F b l) (x t : Int) (At : Option Addr) (ct : Nat) (ts : List Int) (A : Option Addr) (c : Nat) (es : List S77)
    (hT : ∀ W', Kept F W W' → Kd.C (Kd.int .i64) W' At ts.length ts) (hct : ts.length ≤ ct) (hlt : ts.length < 1000000)
    (hE : ∀ W', Kept F W W' → Kd.C k77 W' A es.length es) (hc : es.length ≤ c) (hl : es.length < 1000000) (hm : ∀ x ∈ es, x.f4.length < 17592186044416) :
    Calls Try.prog 32 #[.pointer (some ⟨g, 0, none⟩), .int .i64 x, .int .i64 t, .slice At ts.length ct, .slice A es.length c] W fun e w' => ∃ (F' : Nat → Prop), e = .returned (.tuple #[.int .i64 (putF b l x t ts es).1, .int .i64 (putF b l x t ts es).2.1]) ∧
      Live w0 w' g F' b (putF b l x t ts es).2.2 ∧ (∀ q, F' q → F q ∨ W.heap.size ≤ q) ∧ Kept F W w' :=
  (put_calls h.1 h.2.2.size x t At ct ts A c es hT hct hlt hE hc hl hm).mono (by
    rintro e w' ⟨F', rfl, hI, hF, hk⟩
    exact ⟨_, rfl, ⟨hI.tight, fun q hq => hq.2, below_kept h.2.2 h.2.2.size h.ge hk⟩, fun q hq => hF q hq.1, hk⟩)

theorem Reps.cons_ {α : Type} {R : α → List Value → Prop} {size : Nat} {p : α} {ps : List α} {c cs : List Value} (hp : R p c) (hc : c.length = size) (h : Reps R size ps cs) : Reps R size (p :: ps) (c ++ cs) := by
  refine ⟨by rw [List.length_append, List.length_cons, h.1, hc, Nat.add_mul, Nat.one_mul, Nat.add_comm], fun j q hj => ?_⟩
  cases j with
  | zero =>
    have : p = q := by simpa using hj
    subst this
    have e : ((c ++ cs).drop (0 * size)).take size = c := by rw [Nat.zero_mul, List.drop_zero, ← hc, List.take_left]
    rw [e]
    exact hp
  | succ j =>
    have e : (c ++ cs).drop ((j + 1) * size) = cs.drop (j * size) := by rw [Nat.add_mul, Nat.one_mul, ← hc, Nat.add_comm, ← List.drop_drop, List.drop_left]
    rw [e]
    exact h.2 j q (by simpa using hj)

theorem app_known : appF 0 [] 2 [(⟨0, 1, 0, ⟨#[]⟩, [], 0⟩ : S77), (⟨0, 2, 0, ⟨#[]⟩, [], 0⟩ : S77)] = (2, 0, [⟨2, (⟨0, 1, 0, ⟨#[]⟩, [], 0⟩ : S77)⟩, ⟨2, (⟨0, 2, 0, ⟨#[]⟩, [], 0⟩ : S77)⟩]) := by simp [appF, tm, appL]
theorem put_known : putF 0 [⟨2, (⟨0, 1, 0, ⟨#[]⟩, [], 0⟩ : S77)⟩, ⟨2, (⟨0, 2, 0, ⟨#[]⟩, [], 0⟩ : S77)⟩] 1 2 [3] [(⟨0, 3, 0, ⟨#[]⟩, [], 0⟩ : S77)] = (2, 0, [⟨2, (⟨0, 1, 0, ⟨#[]⟩, [], 0⟩ : S77)⟩, ⟨3, (⟨0, 3, 0, ⟨#[]⟩, [], 0⟩ : S77)⟩]) := by simp [putF, rise, tm, putTo, rd_T105, rd_T77, rd]
theorem en_known : en 0 [⟨2, (⟨0, 1, 0, ⟨#[]⟩, [], 0⟩ : S77)⟩, ⟨3, (⟨0, 3, 0, ⟨#[]⟩, [], 0⟩ : S77)⟩] 2 = (⟨0, 3, 0, ⟨#[]⟩, [], 0⟩ : S77) := by simp [en, rd_T105]
theorem tm_known : tm 0 [⟨2, (⟨0, 1, 0, ⟨#[]⟩, [], 0⟩ : S77)⟩, ⟨3, (⟨0, 3, 0, ⟨#[]⟩, [], 0⟩ : S77)⟩] 2 = 3 := by simp [tm, rd_T105]

set_option maxHeartbeats 8000000 in
set_option maxRecDepth 100000 in
theorem known_calls (w : World) : Calls Try.prog 29 #[] w fun e w' => e = .returned (.bool true) ∧ Below w.heap.size w w' := by
  have hu77 := Try.underlying77
  go_enter Try.func29, Try.ntmps29
  go_wp2_with (first
    | (go_at_call 31; refine (new_live w 0 (by omega) (by omega) (Below.refl _ _)).mono ?_; rintro e_ w1 ⟨g, F1, rfl, hl_, hb_, _⟩; have HL1 := Aside0.mk hl_; clear hl_ hb_)
    | ((with_reducible refine gate_dst (N := 12) rfl ?_); refine Kd.R_lit k77 _ 77 ?hg (N := 12) ?hd (xs := [(⟨0, 1, 0, ⟨#[]⟩, [], 0⟩ : S77), (⟨0, 2, 0, ⟨#[]⟩, [], 0⟩ : S77)]) (inner := [.int .i64 0, .int .i64 1, .int .i64 0, .string ⟨#[]⟩, .slice none 0 0, .int .i64 0, .int .i64 0, .int .i64 2, .int .i64 0, .string ⟨#[]⟩, .slice none 0 0, .int .i64 0]) (ok := fun _ => True) (okp := fun _ => False) ?hr ?hp (fun _ _ => trivial) trivial (Below.refl _ _) (Nat.le_refl _) (by simp) ?_; (case hd => rfl); (case hg => rfl); (case hr => first | (go_simp; done) | (go_simp; rfl)); (case hp => exact Reps.cons_ (show Kd.M k77 _ _ _ (⟨0, 1, 0, ⟨#[]⟩, [], 0⟩ : S77) [.int .i64 0, .int .i64 1, .int .i64 0, .string ⟨#[]⟩, .slice none 0 0, .int .i64 0] from k77_mkM _ _ _ (⟨0, 1, 0, ⟨#[]⟩, [], 0⟩ : S77) (Kd.R_nil _ _ _ _ _)) rfl (Reps.cons_ (show Kd.M k77 _ _ _ (⟨0, 2, 0, ⟨#[]⟩, [], 0⟩ : S77) [.int .i64 0, .int .i64 2, .int .i64 0, .string ⟨#[]⟩, .slice none 0 0, .int .i64 0] from k77_mkM _ _ _ (⟨0, 2, 0, ⟨#[]⟩, [], 0⟩ : S77) (Kd.R_nil _ _ _ _ _)) rfl (Reps.none _ _))); intro v2 w2 hr_ hb_ hg_ hn_; clear hg_ hn_; have n0_ := Aside0.mk hr_; have n1_ := Aside0.mk hb_; clear hr_ hb_; have HL2 := Aside0.mk (HL1.out.below n1_.out); have HR2 := n0_; clear n0_ n1_; obtain ⟨A2, c2, e2_⟩ := Kd.R_slice HR2.out; subst e2_)
    | (go_at_call 33; refine (append_live HL2.out 2 A2 c2 [(⟨0, 1, 0, ⟨#[]⟩, [], 0⟩ : S77), (⟨0, 2, 0, ⟨#[]⟩, [], 0⟩ : S77)] (stable_of_R HR2.out (fun q hq => HL1.out.lt q hq)) (Kd.R_reads' HR2.out).2.1 (by simp) (by simp)).mono ?_; rintro e_ w3 ⟨F3, rfl, hl_, _, _⟩; rw [app_known]; rw [app_known] at hl_; have HL3 := Aside0.mk hl_; clear hl_ HL1 HL2 HR2)
    | ((with_reducible refine gate_dst (N := 16) rfl ?_); refine Kd.R_lit (Kd.int .i64) _ 3 ?hg (N := 16) ?hd (xs := ([3] : List Int)) (inner := [.int .i64 3]) (ok := fun _ => True) (okp := fun _ => False) ?hr ?hp (fun _ _ => trivial) trivial (Below.refl _ _) (Nat.le_refl _) (by simp) ?_; (case hd => rfl); (case hg => rfl); (case hr => first | (go_simp; done) | (go_simp; rfl)); (case hp => exact Reps.one (show Kd.M (Kd.int .i64) _ _ _ 3 [.int .i64 3] from rfl) (Reps.none _ _)); intro v4 w4 hr_ hb_ hg_ hn_; clear hg_ hn_; have n0_ := Aside0.mk hr_; have n1_ := Aside0.mk hb_; clear hr_ hb_; have HL4 := Aside0.mk (HL3.out.below n1_.out); have HR4 := n0_; have HB4 := n1_; clear n0_ n1_; obtain ⟨A4, c4, e4_⟩ := Kd.R_slice HR4.out; subst e4_)
    | ((with_reducible refine gate_dst (N := 18) rfl ?_); refine Kd.R_lit k77 _ 77 ?hg (N := 18) ?hd (xs := [(⟨0, 3, 0, ⟨#[]⟩, [], 0⟩ : S77)]) (inner := [.int .i64 0, .int .i64 3, .int .i64 0, .string ⟨#[]⟩, .slice none 0 0, .int .i64 0]) (ok := fun _ => True) (okp := fun _ => False) ?hr ?hp (fun _ _ => trivial) trivial (Below.refl _ _) (Nat.le_refl _) (by simp) ?_; (case hd => rfl); (case hg => rfl); (case hr => first | (go_simp; done) | (go_simp; rfl)); (case hp => exact Reps.cons_ (show Kd.M k77 _ _ _ (⟨0, 3, 0, ⟨#[]⟩, [], 0⟩ : S77) [.int .i64 0, .int .i64 3, .int .i64 0, .string ⟨#[]⟩, .slice none 0 0, .int .i64 0] from k77_mkM _ _ _ (⟨0, 3, 0, ⟨#[]⟩, [], 0⟩ : S77) (Kd.R_nil _ _ _ _ _)) rfl (Reps.none _ _)); intro v5 w5 hr_ hb_ hg_ hn_; clear hg_ hn_; have n0_ := Aside0.mk hr_; have n1_ := Aside0.mk hb_; clear hr_ hb_; have HL5 := Aside0.mk (HL4.out.below n1_.out); have HR5 := n0_; have HR45 := Aside0.mk (Kd.R_below HR4.out n1_.out); have HB5 := n1_; clear n0_ n1_; obtain ⟨A5, c5, e5_⟩ := Kd.R_slice HR5.out; subst e5_)
    | (go_at_call 32; refine (put_live HL5.out 1 2 A4 c4 [3] A5 c5 [(⟨0, 3, 0, ⟨#[]⟩, [], 0⟩ : S77)] (stable_of_R HR45.out (fun q hq => HL3.out.lt q hq)) (Kd.R_reads' HR45.out).2.1 (by simp) (stable_of_R HR5.out (fun q hq => HL4.out.lt q hq)) (Kd.R_reads' HR5.out).2.1 (by simp) (by simp)).mono ?_; rintro e_ w6 ⟨F6, rfl, hl_, _, _⟩; rw [put_known]; rw [put_known] at hl_; have HL6 := Aside0.mk hl_; clear hl_ HL3 HL4 HL5 HR4 HR45 HR5 HB4 HB5)
    | (go_at_call 46; refine (entry_calls HL6.out.1 (by simp) 2).mono ?_; rintro e_ w7 ⟨A7, c7, rfl, _, hb_⟩; rw [en_known]; have HL7 := Aside0.mk (HL6.out.below hb_); have HI7 := Aside0.mk HL7.out.1; clear hb_ HL6)
    | (go_at_call 35; refine (last_calls (B := w.heap.size) (F := F6) (b := 0) (l := [⟨2, (⟨0, 1, 0, ⟨#[]⟩, [], 0⟩ : S77)⟩, ⟨3, (⟨0, 3, 0, ⟨#[]⟩, [], 0⟩ : S77)⟩]) ?hI).mono ?_; (case hI => (with_reducible repeat (first | exact HI7.out | refine IsH.alloc ?_ _ | refine IsH.drewN ?_ _ | refine IsH.drew ?_))); rintro e_ w' ⟨rfl, ⟨n, rfl⟩⟩)
    | (go_at_call 36; refine (term_calls (B := w.heap.size) (F := F6) (b := 0) (l := [⟨2, (⟨0, 1, 0, ⟨#[]⟩, [], 0⟩ : S77)⟩, ⟨3, (⟨0, 3, 0, ⟨#[]⟩, [], 0⟩ : S77)⟩]) ?hI 2).mono ?_; (case hI => (with_reducible repeat (first | exact HI7.out | refine IsH.alloc ?_ _ | refine IsH.drewN ?_ _ | refine IsH.drew ?_))); rintro e_ w' ⟨rfl, ⟨n, rfl⟩⟩; rw [tm_known]))
  go_ret
  exact ⟨rfl, (by repeat (first | (with_reducible first | exact HL7.out.2.2 | apply below_alloc | apply pw_below_drewN | apply below_drew1) | exact HL7.out.2.2))⟩

end Go.Proofs.Ytbomomaidglegaa.Hist
