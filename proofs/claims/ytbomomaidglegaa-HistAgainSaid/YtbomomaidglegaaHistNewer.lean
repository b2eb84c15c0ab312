/- HistNewer: of two logs one is at least as new as the other; of two that are, each as the other, the ends are alike. -/
import Derived.Test.YtbomomaidglegaaHistGrown
import Derived.Deep.LoopGhost
import Derived.WalkSpells
namespace Go.Proofs.Ytbomomaidglegaa.Hist
open Go Go.RowKit Go.Proofs.Ytbomomaidglegaa.XHist Go.Proofs.YtbomomaidglegaaW.PrintWords Go.Proofs.YtbomomaidglegaaW.PrintLast Go.Proofs.YtbomomaidglegaaW.PrintMore
set_option linter.unusedVariables false
set_option linter.unusedSimpArgs false


theorem last0 {B : Nat} {W : World} {g : Nat} {F : Nat → Prop} {l : List S105} (h : IsH B W g F 0 l) :
    Calls Try.prog 35 #[.pointer (some ⟨g, 0, none⟩)] W fun e w' => e = .returned (.int .i64 (l.length : Int)) ∧ Drawn0 W w' :=
  (last_calls h).mono (by rintro e w' ⟨rfl, hd⟩; rw [Int.zero_add]; exact ⟨rfl, hd⟩)
theorem term0 {B : Nat} {W : World} {g : Nat} {F : Nat → Prop} {l : List S105} (h : IsH B W g F 0 l) (m : Int) (hm : tm 0 l (l.length : Int) = m) :
    Calls Try.prog 36 #[.pointer (some ⟨g, 0, none⟩), .int .i64 (l.length : Int)] W fun e w' => e = .returned (.int .i64 m) ∧ Drawn0 W w' :=
  (term_calls h _).mono (by rintro e w' ⟨rfl, hd⟩; rw [hm]; exact ⟨rfl, hd⟩)
theorem newer0 {B : Nat} {W : World} {g : Nat} {F : Nat → Prop} {l : List S105} (h : IsH B W g F 0 l) (m : Int) (hm : tm 0 l (l.length : Int) = m) (last term : Int) :
    Calls Try.prog 39 #[.pointer (some ⟨g, 0, none⟩), .int .i64 last, .int .i64 term] W fun e w' => ∃ p : Bool, e = .returned (.bool p) ∧ Drawn0 W w' ∧ p = decide (m < term ∨ term = m ∧ (l.length : Int) ≤ last) :=
  (newer_calls h last term).mono (by rintro e w' ⟨rfl, hd⟩; rw [Int.zero_add, hm]; exact ⟨_, rfl, hd, rfl⟩)

set_option maxHeartbeats 8000000 in
set_option maxRecDepth 100000 in
theorem HistNewer_walk (A0 : Option Addr) (c0 : Nat) (l0 : List Int) (A1 : Option Addr) (c1 : Nat) (l1 : List Int) (w : World)
    (hC0 : Kd.C (Kd.int .i64) w A0 l0.length l0) (_hc0 : l0.length ≤ c0) (_hm0 : l0.length ≤ maxLen) (_ho0 : ∀ a ∈ l0, (Lit.int .i64 a).wf = true)
    (hC1 : Kd.C (Kd.int .i64) w A1 l1.length l1) (_hc1 : l1.length ≤ c1) (_hm1 : l1.length ≤ maxLen) (_ho1 : ∀ a ∈ l1, (Lit.int .i64 a).wf = true) :
    Calls Try.prog 9 #[.slice A0 l0.length c0, .slice A1 l1.length c1] w fun e w' => e = .returned (.bool true) ∧ Below w.heap.size w w' := by
  have HC0 := Aside0.mk hC0
  have HC1 := Aside0.mk hC1
  clear hC0 hC1 _hc0 _hm0 _ho0 _hc1 _hm1 _ho1
  go_enter Try.func9, Try.ntmps9
  go_upto_region 7 with (first
    | (go_at_call 29; refine (known_calls _).mono ?_; rintro e_ w1 ⟨rfl, hb1⟩; have HB1 := Aside0.mk hb1; clear hb1)
    | (go_at_call_of 38 (Value.slice A0 l0.length c0); refine (grown_calls w1 A0 c0 l0 (Kd.C_below HC0.out HB1.out)).mono ?_; rintro e_ w2 ⟨gx, Fx, lx, tx, rfl, hl_, _, _, _, _, _⟩; have HX2 := Aside0.mk (hl_.lower HB1.out); clear hl_; obtain ⟨mx, hm_⟩ : ∃ m, tm 0 lx (lx.length : Int) = m := ⟨_, rfl⟩; have HMX := Aside0.mk hm_; clear hm_)
    | (go_at_call_of 38 (Value.slice A1 l1.length c1); refine (grown_calls w2 A1 c1 l1 (Kd.C_below HC1.out HX2.out.2.2)).mono ?_; rintro e_ w3 ⟨gy, Fy, ly, ty, rfl, hl_, _, _, _, _, _⟩; have HY := Aside0.mk (hl_.lower HX2.out.2.2).1; have HX := Aside0.mk (HX2.out.below hl_.2.2).1; have HB := Aside0.mk (hl_.lower HX2.out.2.2).2.2; clear hl_; obtain ⟨my, hm_⟩ : ∃ m, tm 0 ly (ly.length : Int) = m := ⟨_, rfl⟩; have HMY := Aside0.mk hm_; clear hm_)
    | (go_at_call_of 35 (Value.pointer (some ⟨gx, 0, none⟩)); refine (last0 (B := w.heap.size) (F := Fx) (l := lx) ?hI).mono ?_; (case hI => (with_reducible repeat (first | exact HX.out | refine IsH.drewN ?_ _ | refine IsH.drew ?_))); rintro e_ w' ⟨rfl, ⟨n, rfl⟩⟩)
    | (go_at_call_of 35 (Value.pointer (some ⟨gy, 0, none⟩)); refine (last0 (B := w.heap.size) (F := Fy) (l := ly) ?hI).mono ?_; (case hI => (with_reducible repeat (first | exact HY.out | refine IsH.drewN ?_ _ | refine IsH.drew ?_))); rintro e_ w' ⟨rfl, ⟨n, rfl⟩⟩)
    | (go_at_call_of 36 (Value.pointer (some ⟨gx, 0, none⟩)); refine (term0 (B := w.heap.size) (F := Fx) (l := lx) ?hI mx HMX.out).mono ?_; (case hI => (with_reducible repeat (first | exact HX.out | refine IsH.drewN ?_ _ | refine IsH.drew ?_))); rintro e_ w' ⟨rfl, ⟨n, rfl⟩⟩)
    | (go_at_call_of 36 (Value.pointer (some ⟨gy, 0, none⟩)); refine (term0 (B := w.heap.size) (F := Fy) (l := ly) ?hI my HMY.out).mono ?_; (case hI => (with_reducible repeat (first | exact HY.out | refine IsH.drewN ?_ _ | refine IsH.drew ?_))); rintro e_ w' ⟨rfl, ⟨n, rfl⟩⟩)
    | (go_at_call_of 39 (Value.pointer (some ⟨gx, 0, none⟩)); refine (newer0 (B := w.heap.size) (F := Fx) (l := lx) ?hI mx HMX.out _ _).mono ?_; (case hI => (with_reducible repeat (first | exact HX.out | refine IsH.drewN ?_ _ | refine IsH.drew ?_))); rintro e_ w' ⟨px, rfl, ⟨n, rfl⟩, hp_⟩; have HPX := Aside0.mk hp_; clear hp_)
    | (go_at_call_of 39 (Value.pointer (some ⟨gy, 0, none⟩)); refine (newer0 (B := w.heap.size) (F := Fy) (l := ly) ?hI my HMY.out _ _).mono ?_; (case hI => (with_reducible repeat (first | exact HY.out | refine IsH.drewN ?_ _ | refine IsH.drew ?_))); rintro e_ w' ⟨py, rfl, ⟨n, rfl⟩, hp_⟩; have HPY := Aside0.mk hp_; clear hp_))
  have hpx := HPX.out
  have hpy := HPY.out
  clear HPX HPY
  obtain ⟨ex, hex⟩ : ∃ ex, ((lx.length : Int) == (ly.length : Int)) = ex := ⟨_, rfl⟩
  obtain ⟨em, hem⟩ : ∃ em, (mx == my) = em := ⟨_, rfl⟩
  have hex2 : ex = decide ((lx.length : Int) = (ly.length : Int)) := by rw [← hex]; rfl
  have hem2 : em = decide (mx = my) := by rw [← hem]; rfl
  have KX := Aside0.mk hpx
  have KY := Aside0.mk hpy
  have KE := Aside0.mk hex2
  have KM := Aside0.mk hem2
  clear hpx hpy hex2 hem2
  cases px <;> cases py <;> cases ex <;> cases em
  all_goals first
    | (exfalso; have h1 := KX.out; have h2 := KY.out; have h3 := KE.out; have h4 := KM.out; simp at h1 h2 h3 h4; omega)
    | (go_wp2_with (first | (go_at_call_of 35 (Value.pointer (some ⟨gx, 0, none⟩)); refine (last0 (B := w.heap.size) (F := Fx) (l := lx) ?hI).mono ?_; (case hI => (with_reducible repeat (first | exact HX.out | refine IsH.drewN ?_ _ | refine IsH.drew ?_))); rintro e_ w' ⟨rfl, ⟨n, rfl⟩⟩) | (go_at_call_of 35 (Value.pointer (some ⟨gy, 0, none⟩)); refine (last0 (B := w.heap.size) (F := Fy) (l := ly) ?hI).mono ?_; (case hI => (with_reducible repeat (first | exact HY.out | refine IsH.drewN ?_ _ | refine IsH.drew ?_))); rintro e_ w' ⟨rfl, ⟨n, rfl⟩⟩) | (go_at_call_of 36 (Value.pointer (some ⟨gx, 0, none⟩)); refine (term0 (B := w.heap.size) (F := Fx) (l := lx) ?hI mx HMX.out).mono ?_; (case hI => (with_reducible repeat (first | exact HX.out | refine IsH.drewN ?_ _ | refine IsH.drew ?_))); rintro e_ w' ⟨rfl, ⟨n, rfl⟩⟩) | (go_at_call_of 36 (Value.pointer (some ⟨gy, 0, none⟩)); refine (term0 (B := w.heap.size) (F := Fy) (l := ly) ?hI my HMY.out).mono ?_; (case hI => (with_reducible repeat (first | exact HY.out | refine IsH.drewN ?_ _ | refine IsH.drew ?_))); rintro e_ w' ⟨rfl, ⟨n, rfl⟩⟩) | (go_at_call_of 39 (Value.pointer (some ⟨gx, 0, none⟩)); refine (newer0 (B := w.heap.size) (F := Fx) (l := lx) ?hI mx HMX.out _ _).mono ?_; (case hI => (with_reducible repeat (first | exact HX.out | refine IsH.drewN ?_ _ | refine IsH.drew ?_))); rintro e_ w' ⟨px, rfl, ⟨n, rfl⟩, hp_⟩; have HPX := Aside0.mk hp_; clear hp_) | (go_at_call_of 39 (Value.pointer (some ⟨gy, 0, none⟩)); refine (newer0 (B := w.heap.size) (F := Fy) (l := ly) ?hI my HMY.out _ _).mono ?_; (case hI => (with_reducible repeat (first | exact HY.out | refine IsH.drewN ?_ _ | refine IsH.drew ?_))); rintro e_ w' ⟨py, rfl, ⟨n, rfl⟩, hp_⟩; have HPY := Aside0.mk hp_; clear hp_)); go_ret; exact ⟨rfl, by repeat (first | (with_reducible first | exact HB.out | apply pw_below_drewN | apply below_drew1) | exact HB.out)⟩)

end Go.Proofs.Ytbomomaidglegaa.Hist
