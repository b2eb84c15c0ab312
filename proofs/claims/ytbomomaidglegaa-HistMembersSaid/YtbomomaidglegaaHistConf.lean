/- hist.Hist.Config, by hand: what counts behind a log's entries. -/
import Derived.Test.YtbomomaidglegaaHistMemb0
import Derived.Deep.LoopGhost
import Derived.WalkSpells
namespace Go.Proofs.Ytbomomaidglegaa.Hist
open Go Go.RowKit Go.Proofs.Ytbomomaidglegaa.XHist Go.Proofs.YtbomomaidglegaaW.PrintWords Go.Proofs.YtbomomaidglegaaW.PrintLast Go.Proofs.YtbomomaidglegaaW.PrintMore
set_option linter.unusedVariables false
set_option linter.unusedSimpArgs false


/-- A slice of numbers that stays readable whatever is written in K's blocks and new ones. -/
def Stays (K : Nat → Prop) (W : World) (v : Value) (l : List Int) : Prop := ∃ A c, v = .slice A l.length c ∧ l.length ≤ c ∧ ∀ W', Kept K W W' → Kd.C (Kd.int .i64) W' A l.length l
theorem Stays.kept {K K' : Nat → Prop} {W W' : World} {v : Value} {l : List Int} (h : Stays K W v l) (hk : Kept K' W W') (hK : ∀ q, K' q → K q ∨ W.heap.size ≤ q) (hL : ∀ q, K q → K q ∨ W.heap.size ≤ q) : Stays K W' v l := by
  obtain ⟨A, c, e, hc, hC⟩ := h
  exact ⟨A, c, e, hc, fun W2 h2 => hC W2 ((hk.imp hK).trans (fun q hq => .inl hq) h2)⟩
theorem Stays.of_R {K : Nat → Prop} {W : World} {B : Nat} {ok : Nat → Prop} {v : Value} {l : List Int} (h : Kd.R (Kd.int .i64) 3 W B ok v l) (hK : ∀ q, K q → q < B) : Stays K W v l := by
  obtain ⟨A, c, rfl⟩ := Kd.R_slice h
  exact ⟨A, c, rfl, (Kd.R_reads' h).2.1, fun W' hk => (Kd.R_reads' (R_kept_ (Kd.R_mono (Kd.R_bound h) (ok' := fun q => B ≤ q) (fun q hq => hq.2.1)) hk (fun q hq hK' => by have := hK q hK'; omega))).2.2⟩
theorem sets2 (W : World) (g : Nat) (t : Nat) (a0 a1 v0 v1 : Value) (h : W.heap[g]? = some (.cells #[a0, a1] t (0, 0))) :
    ((W.setCell ⟨g, 0, none⟩ v0).setCell ⟨g, 1, none⟩ v1).heap[g]? = some (.cells #[v0, v1] t (0, 0)) ∧ Kept (fun q => q = g) W ((W.setCell ⟨g, 0, none⟩ v0).setCell ⟨g, 1, none⟩ v1) := by
  refine ⟨blk_put_ (cs := #[v0, a1]) (blk_put_ (cs := #[a0, a1]) h 0 v0 rfl) 1 v1 rfl, ?_⟩
  exact (kept_set (F := fun q => q = g) W ⟨g, 0, none⟩ v0 rfl).trans (fun q hq => .inl hq) (kept_set (F := fun q => q = g) _ ⟨g, 1, none⟩ v1 rfl)
/-- What Config leaves. -/
def CPost (W : World) (c : List Int × List Int) (e : Ending) (w' : World) : Prop := ∃ v0 v1 : Value, e = .returned (.agg #[v0, v1]) ∧ Kd.R (Kd.int .i64) 3 w' W.heap.size (fun _ => True) v0 c.1 ∧ Kd.R (Kd.int .i64) 3 w' W.heap.size (fun _ => True) v1 c.2 ∧ Below W.heap.size W w'
theorem CPost.mk {W w' : World} {c : List Int × List Int} {v0 v1 : Value} (h0 : Kd.R (Kd.int .i64) 3 w' W.heap.size (fun _ => True) v0 c.1) (h1 : Kd.R (Kd.int .i64) 3 w' W.heap.size (fun _ => True) v1 c.2) (h2 : Below W.heap.size W w') : CPost W c (.returned (.agg #[v0, v1])) w' := ⟨v0, v1, rfl, h0, h1, h2⟩

set_option maxHeartbeats 16000000 in
set_option maxRecDepth 100000 in
theorem config_calls {B : Nat} {W : World} {g : Nat} {F : Nat → Prop} {b : Int} {l : List S105} (h : IsH B W g F b l) (hm : ∀ x ∈ l, x.f1.f4.length ≤ 1000) (A0 : Option Addr) (c0 : Nat) (o : List Int) (A1 : Option Addr) (c1 : Nat) (n : List Int)
    (hC0 : Kd.C (Kd.int .i64) W A0 o.length o) (hc0 : o.length ≤ c0) (hC1 : Kd.C (Kd.int .i64) W A1 n.length n) (hc1 : n.length ≤ c1) (ho : o.length ≤ 1000) (hn : n.length ≤ 1000) :
    Calls Try.prog 55 #[.pointer (some ⟨g, 0, none⟩), .agg #[.slice A0 o.length c0, .slice A1 n.length c1]] W (CPost W (cf l (o, n))) := by
  have hu26 := Try.underlying26
  have hu105 := Try.underlying105
  have hu77 := Try.underlying77
  obtain ⟨AL, cL, hbg, _, hCL, _, h64⟩ := h.reads
  have hl64 : l.length ≤ 64 := by omega
  have HM := Aside0.mk hm
  have HCL := Aside0.mk hCL
  have HS0 : Aside0 (Stays (fun q => q = W.heap.size) W (.slice A0 o.length c0) o) := ⟨⟨A0, c0, rfl, hc0, stable_of_C hC0 (Below.refl _ _) (fun q hq => by omega)⟩⟩
  have HS1 : Aside0 (Stays (fun q => q = W.heap.size) W (.slice A1 n.length c1) n) := ⟨⟨A1, c1, rfl, hc1, stable_of_C hC1 (Below.refl _ _) (fun q hq => by omega)⟩⟩
  have HO := Aside0.mk ho
  have HN := Aside0.mk hn
  have HH := Aside0.mk h
  have hcg : W.cell? ⟨g, 1, none⟩ = some (.slice AL l.length cL) := (blk_cell hbg 1).trans rfl
  clear h hm hbg hCL h64 hC0 hc0 hC1 hc1 ho hn
  go_enter Try.func55, Try.ntmps55
  go_upto_region 1 with (fail)
  generalize hwa : World.alloc (World.alloc W _) _ = wa
  have hba : Below W.heap.size W wa := by rw [← hwa]; exact below_alloc (below_alloc (Below.refl _ _) _) _
  have hbc : wa.heap[W.heap.size]? = some (.cells #[.slice A0 o.length c0, .slice A1 n.length c1] 26 (0, 0)) := by rw [← hwa]; exact blk_alloc (heap_alloc_new _ _) _
  have hbr : wa.heap[W.heap.size + 1]? = some (.cells #[.slice none 0 0, .slice none 0 0] 26 (0, 0)) := by
    rw [← hwa, show W.heap.size + 1 = (World.alloc W (.cells #[.slice A0 o.length c0, .slice A1 n.length c1] 26)).heap.size by simp]
    exact heap_alloc_new _ _
  obtain ⟨gb, hgb⟩ : ∃ q, W.heap.size = q := ⟨_, rfl⟩
  have hs0 := HS0.out
  have hs1 := HS1.out
  rw [hgb] at hbc hbr hs0 hs1
  try rw [hgb]
  have HGB := Aside0.mk hgb
  have HS0 := Aside0.mk (hs0.kept (K' := fun _ => False) (Kept.of_below hba) (fun q hq => hq.elim) (fun q hq => .inl hq))
  have HS1 := Aside0.mk (hs1.kept (K' := fun _ => False) (Kept.of_below hba) (fun q hq => hq.elim) (fun q hq => .inl hq))
  have HBA := Aside0.mk hba
  have BC0 := Aside0.mk hbc
  have BR0 := Aside0.mk hbr
  have hcg2 := pw_cell_below hba hcg
  clear hwa hba hbc hbr hgb hs0 hs1 hcg
  go_wp2
  clear hcg2
  go_loopw [14] (fun v14 wr => ∃ (k : Nat) (vo vn : Value) (ov nv : List Int), v14 = .int .i64 (k : Int) ∧ k ≤ l.length ∧ Aside0 (Below W.heap.size W wr) ∧ Aside0 (wr.heap[gb]? = some (.cells #[vo, vn] 26 (0, 0))) ∧ Aside0 (wr.heap[gb + 1]? = some (.cells #[.slice none 0 0, .slice none 0 0] 26 (0, 0))) ∧
      Aside0 (Stays (fun q => q = gb) wr vo ov) ∧ Aside0 (Stays (fun q => q = gb) wr vn nv) ∧ Aside0 (cf (l.take k) (o, n) = (ov, nv)))
    (fun v14 _ => l.length - (intOf v14).toNat)
  case atStart => exact ⟨0, _, _, o, n, rfl, Nat.zero_le _, HBA, BC0, BR0, HS0, HS1, ⟨rfl⟩⟩
  case round =>
    obtain ⟨k, vo, vn, ov, nv, rfl, hk, HB, BC, BR, HSo, HSn, HCF⟩ := hrel
    obtain ⟨Ao, co, rfl, hco, hCo⟩ := HSo.out
    obtain ⟨An, cn, rfl, hcn, hCn⟩ := HSn.out
    have HCo := Aside0.mk hCo
    have HCn := Aside0.mk hCn
    have Hco := Aside0.mk hco
    have Hcn := Aside0.mk hcn
    have hle := cf_le (l.take k) (o, n) HO.out HN.out (fun x hx => HM.out x (List.mem_of_mem_take hx))
    rw [HCF.out] at hle
    have HLE := Aside0.mk hle
    clear HBA BC0 BR0 HS0 HS1 hco hcn hCo hCn hle
    have hb0 := blk_cell BC.out 0
    have hb1 := blk_cell BC.out 1
    have hz0 := blk_frozen BC.out 0
    have hz1 := blk_frozen BC.out 1
    by_cases hlk : k < l.length
    · have q1 := eq_true (show (k : Int) < (l.length : Int) by omega)
      have q0 := eq_true (show 0 ≤ (k : Int) by omega)
      obtain ⟨ad, A5, c5, rfl, hy, hy0, hy1, hy2, hy3, hy4, hy5, hyc, hyC⟩ := at_T105 HCL.out (k : Int) (by omega) (by omega)
      rw [Int.toNat_natCast] at hy hy0 hy1 hy2 hy3 hy4 hy5
      have hym := HM.out (l[k]) (List.getElem_mem hlk)
      rw [← rd105_at l k hlk] at hym
      obtain ⟨y, hyk⟩ : ∃ y, rd_T105 l (k : Int) = y := ⟨_, rfl⟩
      have HYE := Aside0.mk (show l.take (k + 1) = l.take k ++ [y] by rw [List.take_succ_eq_append_getElem hlk, ← hyk, rd105_at l k hlk])
      rw [hyk] at hy hy0 hy1 hy2 hy3 hy4 hy5 hyc hyC hym
      have HYC := Aside0.mk hyC
      have HYc := Aside0.mk hyc
      have HYM := Aside0.mk hym
      have hq := pw_cell_below HB.out hy
      have hq0 := pw_cell_below HB.out hy0
      have hq1 := pw_cell_below HB.out hy1
      have hq2 := pw_cell_below HB.out hy2
      have hq3 := pw_cell_below HB.out hy3
      have hq4 := pw_cell_below HB.out hy4
      have hq5 := pw_cell_below HB.out hy5
      have hcfn : cf (l.take (k + 1)) (o, n) = cf1 ov nv y.f1.f0 y.f1.f4 := by rw [HYE.out, cf_snoc, HCF.out]
      have HCFN := Aside0.mk hcfn
      clear hyk hyC hyc hym hy hy0 hy1 hy2 hy3 hy4 hy5 hcfn
      have hwk : wrap64 ((k : Int) + 1) = (k : Int) + 1 := by unfold wrap64; omega
      go_upto_region 4 with (fail)
      generalize hw1 : World.alloc wr _ = w1
      have hbw1 : Below wr.heap.size wr w1 := by rw [← hw1]; exact below_alloc (Below.refl _ _) _
      have hbx1 : w1.heap[wr.heap.size]? = some (.cells #[.int .i64 y.f0, .int .i64 y.f1.f0, .int .i64 y.f1.f1, .int .i64 y.f1.f2, .string y.f1.f3, .slice A5 y.f1.f4.length c5, .int .i64 y.f1.f5] 105 (0, 0)) := by rw [← hw1]; exact heap_alloc_new _ _
      obtain ⟨gx, hgx⟩ : ∃ q, wr.heap.size = q := ⟨_, rfl⟩
      rw [hgx] at hbx1 ⊢
      have HBW1 := Aside0.mk hbw1
      have BX1 := Aside0.mk hbx1
      have HGX := Aside0.mk hgx
      have hd0 := blk_cell (blk_below BC.out hbw1) 0
      have hd1 := blk_cell (blk_below BC.out hbw1) 1
      clear hw1 hbw1 hbx1 hgx hq hq0 hq1 hq2 hq3 hq4 hq5 hb0 hb1 hz0 hz1
      go_upto_region 5 with (fail)
      generalize hw2 : World.alloc w1 _ = w2
      have hbw2 : Below w1.heap.size w1 w2 := by rw [← hw2]; exact below_alloc (Below.refl _ _) _
      have hbx2 : w2.heap[w1.heap.size]? = some (.cells #[.slice Ao ov.length co, .slice An nv.length cn] 26 (0, 0)) := by rw [← hw2]; exact heap_alloc_new _ _
      obtain ⟨gy, hgy⟩ : ∃ q, w1.heap.size = q := ⟨_, rfl⟩
      rw [hgy] at hbx2 ⊢
      have HBW := Aside0.mk (below_then HBW1.out HBW1.out.size hbw2)
      have BX := Aside0.mk (blk_below BX1.out hbw2)
      have BY := Aside0.mk hbx2
      have BC2 := Aside0.mk (blk_below BC.out HBW.out)
      have BR2 := Aside0.mk (blk_below BR.out HBW.out)
      have HGY := Aside0.mk (show wr.heap.size ≤ gy by rw [← hgy]; exact HBW1.out.size)
      have hb0 := blk_cell BC2.out 0
      have hb1 := blk_cell BC2.out 1
      have hz0 := blk_frozen BC2.out 0
      have hz1 := blk_frozen BC2.out 1
      have hy0 := blk_cell BY.out 0
      have hy1 := blk_cell BY.out 1
      have hu0 := blk_frozen BY.out 0
      have hu1 := blk_frozen BY.out 1
      have hx1 := blk_cell BX.out 1
      have hx5 := blk_cell BX.out 5
      clear hw2 hbw2 hbx2 hgy hd0 hd1 HBW1 BX1
      by_cases hk2 : y.f1.f0 = 2
      · obtain ⟨r1, r2, r3, hr⟩ : ∃ r1 r2 r3, CP.enter ov nv y.f1.f4 = (r1, r2, r3) := ⟨_, _, _, rfl⟩
        have HRF := Aside0.mk (show conf_Enter.f 3000 ov nv y.f1.f4 = some (r1, r2, r3) by rw [CP.enter_f ov nv y.f1.f4 HLE.out.2 HYM.out 3000 (by have := HYM.out; omega), hr])
        have hcf2 : cf1 ov nv y.f1.f0 y.f1.f4 = if r3 = 0 then (r1, r2) else (ov, nv) := by unfold cf1; rw [if_pos hk2, hr]
        have HCF2 := Aside0.mk hcf2
        have hgbn : gb < wr.heap.size := blk_lt BC.out
        have hgyn : gy < w2.heap.size := blk_lt BY.out
        have hne : gb ≠ gy := by have := HGY.out; omega
        have HNE := Aside0.mk hne
        have HGN := Aside0.mk (And.intro hgbn hgyn)
        have HCa := Aside0.mk (HCo.out w2 (Kept.of_below HBW.out))
        have HCb := Aside0.mk (HCn.out w2 (Kept.of_below HBW.out))
        have HCc := Aside0.mk (Kd.C_below (Kd.C_below HYC.out HB.out) HBW.out)
        rw [hk2] at hx1
        clear hr hcf2 hgbn hgyn hne hk2
        by_cases hr3 : r3 = 0
        · have d3 : (r3 == 0) = true := beq_iff_eq.mpr hr3
          have HR3 := Aside0.mk hr3
          clear hr3
          go_upto_region 13 with (first
            | (go_at_call 73; refine (conf_Enter.calls 3000 Ao co ov An cn nv A5 c5 y.f1.f4 r1 r2 r3 _ HCa.out Hco.out HCb.out Hcn.out HCc.out HYc.out HRF.out).mono ?_; rintro e_ w3 ⟨v0_, v1_, rfl, hr0_, hr1_, hb3_⟩; obtain ⟨Ae, ce, e0_⟩ := Kd.R_slice hr0_; obtain ⟨Af, cf_, e1_⟩ := Kd.R_slice hr1_; subst e0_; subst e1_; have HR0 := Aside0.mk (Kd.R_mono hr0_ (fun _ _ => trivial) : Kd.R (Kd.int .i64) 3 w3 w2.heap.size (fun _ => True) (.slice Ae r1.length ce) r1); have HR1 := Aside0.mk (Kd.R_mono hr1_ (fun _ _ => trivial) : Kd.R (Kd.int .i64) 3 w3 w2.heap.size (fun _ => True) (.slice Af r2.length cf_) r2); have HB3 := Aside0.mk hb3_; have hv0 := blk_cell (blk_below BY.out hb3_) 0; have hv1 := blk_cell (blk_below BY.out hb3_) 1; have hw0 := blk_frozen (blk_below BY.out hb3_) 0; have hw1 := blk_frozen (blk_below BY.out hb3_) 1; clear hr0_ hr1_ hb3_))
          generalize hw4 : World.setCell _ _ _ = w4
          obtain ⟨hb4, hk4_⟩ := sets2 w3 gy 26 _ _ (.slice Ae r1.length ce) (.slice Af r2.length cf_) (blk_below BY.out HB3.out)
          rw [hw4] at hb4 hk4_
          have HB4 := Aside0.mk hb4
          have HK4 := Aside0.mk hk4_
          have BC4 := Aside0.mk (blk_kept hk4_ (blk_below BC2.out HB3.out) HNE.out)
          have BR4 := Aside0.mk (blk_kept hk4_ (blk_below BR2.out HB3.out) (by have h1 := blk_lt BR.out; have h2 := HGY.out; omega))
          have hy0 := blk_cell hb4 0
          have hy1 := blk_cell hb4 1
          have hb0 := blk_cell BC4.out 0
          have hb1 := blk_cell BC4.out 1
          have hz0 := blk_frozen BC4.out 0
          have hz1 := blk_frozen BC4.out 1
          clear hw4 hb4 hk4_
          go_wp2
          case roundEnd =>
            generalize hw5 : World.setCell _ _ _ = w5
            obtain ⟨hb5, hk5⟩ := sets2 w4 gb 26 _ _ (.slice Ae r1.length ce) (.slice Af r2.length cf_) BC4.out
            rw [hw5] at hb5 hk5
            have hg1 := HGN.out.1
            have hg2 := HGN.out.2
            have hz := HBW.out.size
            have hR : ∀ (v : Value) (r : List Int), Kd.R (Kd.int .i64) 3 w3 w2.heap.size (fun _ => True) v r → Stays (fun q => q = gb) w5 v r := fun v r h => by
              have h1 := R_kept_ (Kd.R_mono (Kd.R_bound h) (ok' := fun q => w2.heap.size ≤ q) (fun q hq => hq.2.1)) HK4.out (fun q hq he => by omega)
              have h2 := R_kept_ h1 hk5 (fun q hq he => by omega)
              exact Stays.of_R h2 (fun q hq => by omega)
            refine ⟨⟨k + 1, _, _, r1, r2, by first | rfl | (rw [hwk]; rfl), hlk, ⟨?_⟩, ⟨hb5⟩, ⟨blk_kept hk5 BR4.out (by omega)⟩, ⟨hR _ r1 HR0.out⟩, ⟨hR _ r2 HR1.out⟩, ⟨?_⟩⟩, meas_step hlk (by first | rfl | exact hwk)⟩
            · have hk1 : Kept (fun q => q = gb ∨ q = gy) wr w5 := (((Kept.of_below (F := fun q => q = gb ∨ q = gy) HBW.out).below HB3.out).trans (fun q hq => .inl (.inr hq)) HK4.out).trans (fun q hq => .inl (.inl hq)) hk5
              have hgb := HGB.out
              have hgx := HGX.out
              have hgy := HGY.out
              have hs := HB.out.size
              exact below_kept HB.out hs (fun q hq => by rcases hq with hq | hq <;> omega) hk1
            · rw [HCFN.out, HCF2.out, if_pos HR3.out]
        · have d3 : (r3 == 0) = false := beq_eq_false_iff_ne.mpr hr3
          have HR3 := Aside0.mk hr3
          clear hr3
          go_upto_region 13 with (first
            | (go_at_call 73; refine (conf_Enter.calls 3000 Ao co ov An cn nv A5 c5 y.f1.f4 r1 r2 r3 _ HCa.out Hco.out HCb.out Hcn.out HCc.out HYc.out HRF.out).mono ?_; rintro e_ w3 ⟨v0_, v1_, rfl, hr0_, hr1_, hb3_⟩; obtain ⟨Ae, ce, e0_⟩ := Kd.R_slice hr0_; obtain ⟨Af, cf_, e1_⟩ := Kd.R_slice hr1_; subst e0_; subst e1_; have HR0 := Aside0.mk (Kd.R_mono hr0_ (fun _ _ => trivial) : Kd.R (Kd.int .i64) 3 w3 w2.heap.size (fun _ => True) (.slice Ae r1.length ce) r1); have HR1 := Aside0.mk (Kd.R_mono hr1_ (fun _ _ => trivial) : Kd.R (Kd.int .i64) 3 w3 w2.heap.size (fun _ => True) (.slice Af r2.length cf_) r2); have HB3 := Aside0.mk hb3_; have hv0 := blk_cell (blk_below BY.out hb3_) 0; have hv1 := blk_cell (blk_below BY.out hb3_) 1; have hw0 := blk_frozen (blk_below BY.out hb3_) 0; have hw1 := blk_frozen (blk_below BY.out hb3_) 1; clear hr0_ hr1_ hb3_))
          generalize hw4 : World.setCell _ _ _ = w4
          obtain ⟨hb4, hk4_⟩ := sets2 w3 gy 26 _ _ (.slice Ae r1.length ce) (.slice Af r2.length cf_) (blk_below BY.out HB3.out)
          rw [hw4] at hb4 hk4_
          have HK4 := Aside0.mk hk4_
          have BC4 := Aside0.mk (blk_kept hk4_ (blk_below BC2.out HB3.out) HNE.out)
          have BR4 := Aside0.mk (blk_kept hk4_ (blk_below BR2.out HB3.out) (by have h1 := blk_lt BR.out; have h2 := HGY.out; omega))
          clear hw4 hb4 hk4_
          go_wp2
          case roundEnd =>
            have hg1 := HGN.out.1
            have hg2 := HGN.out.2
            have hz := HBW.out.size
            have hgb := HGB.out
            have hgx := HGX.out
            have hgy := HGY.out
            have hs := HB.out.size
            have hk1 : Kept (fun q => q = gy) wr w4 := ((Kept.of_below (F := fun q => q = gy) HBW.out).below HB3.out).trans (fun q hq => .inl hq) HK4.out
            refine ⟨⟨k + 1, _, _, ov, nv, by first | rfl | (rw [hwk]; rfl), hlk, ⟨below_kept HB.out hs (fun q hq => by omega) hk1⟩, BC4, BR4, ⟨HSo.out.kept hk1 (fun q hq => .inr (by omega)) (fun q hq => .inl hq)⟩, ⟨HSn.out.kept hk1 (fun q hq => .inr (by omega)) (fun q hq => .inl hq)⟩, ⟨?_⟩⟩, meas_step hlk (by first | rfl | exact hwk)⟩
            rw [HCFN.out, HCF2.out, if_neg HR3.out]
      by_cases hk4 : y.f1.f0 = 4
      · obtain ⟨r1, r2, r3, hr⟩ : ∃ r1 r2 r3, CP.leave ov nv = (r1, r2, r3) := ⟨_, _, _, rfl⟩
        have HRF := Aside0.mk (show conf_Leave.f ov nv = some (r1, r2, r3) by rw [CP.leave_f ov nv HLE.out.2, hr])
        have hcf2 : cf1 ov nv y.f1.f0 y.f1.f4 = if r3 = 0 then (r1, r2) else (ov, nv) := by unfold cf1; rw [if_neg (by rw [hk4]; decide), if_pos hk4, hr]
        have HCF2 := Aside0.mk hcf2
        have hgbn : gb < wr.heap.size := blk_lt BC.out
        have hgyn : gy < w2.heap.size := blk_lt BY.out
        have hne : gb ≠ gy := by have := HGY.out; omega
        have HNE := Aside0.mk hne
        have HGN := Aside0.mk (And.intro hgbn hgyn)
        have HCa := Aside0.mk (HCo.out w2 (Kept.of_below HBW.out))
        have HCb := Aside0.mk (HCn.out w2 (Kept.of_below HBW.out))
        have HCc := Aside0.mk (Kd.C_below (Kd.C_below HYC.out HB.out) HBW.out)
        rw [hk4] at hx1
        clear hr hcf2 hgbn hgyn hne hk4 hk2
        by_cases hr3 : r3 = 0
        · have d3 : (r3 == 0) = true := beq_iff_eq.mpr hr3
          have HR3 := Aside0.mk hr3
          clear hr3
          go_upto_region 13 with (first
            | (go_at_call 74; refine (conf_Leave.calls Ao co ov An cn nv r1 r2 r3 _ HCa.out Hco.out HCb.out Hcn.out HRF.out).mono ?_; rintro e_ w3 ⟨v0_, v1_, rfl, hr0_, hr1_, hb3_⟩; obtain ⟨Ae, ce, e0_⟩ := Kd.R_slice hr0_; obtain ⟨Af, cf_, e1_⟩ := Kd.R_slice hr1_; subst e0_; subst e1_; have HR0 := Aside0.mk (Kd.R_mono hr0_ (fun _ _ => trivial) : Kd.R (Kd.int .i64) 3 w3 w2.heap.size (fun _ => True) (.slice Ae r1.length ce) r1); have HR1 := Aside0.mk (Kd.R_mono hr1_ (fun _ _ => trivial) : Kd.R (Kd.int .i64) 3 w3 w2.heap.size (fun _ => True) (.slice Af r2.length cf_) r2); have HB3 := Aside0.mk hb3_; have hv0 := blk_cell (blk_below BY.out hb3_) 0; have hv1 := blk_cell (blk_below BY.out hb3_) 1; have hw0 := blk_frozen (blk_below BY.out hb3_) 0; have hw1 := blk_frozen (blk_below BY.out hb3_) 1; clear hr0_ hr1_ hb3_))
          generalize hw4 : World.setCell _ _ _ = w4
          obtain ⟨hb4, hk4_⟩ := sets2 w3 gy 26 _ _ (.slice Ae r1.length ce) (.slice Af r2.length cf_) (blk_below BY.out HB3.out)
          rw [hw4] at hb4 hk4_
          have HB4 := Aside0.mk hb4
          have HK4 := Aside0.mk hk4_
          have BC4 := Aside0.mk (blk_kept hk4_ (blk_below BC2.out HB3.out) HNE.out)
          have BR4 := Aside0.mk (blk_kept hk4_ (blk_below BR2.out HB3.out) (by have h1 := blk_lt BR.out; have h2 := HGY.out; omega))
          have hy0 := blk_cell hb4 0
          have hy1 := blk_cell hb4 1
          have hb0 := blk_cell BC4.out 0
          have hb1 := blk_cell BC4.out 1
          have hz0 := blk_frozen BC4.out 0
          have hz1 := blk_frozen BC4.out 1
          clear hw4 hb4 hk4_
          go_wp2
          case roundEnd =>
            generalize hw5 : World.setCell _ _ _ = w5
            obtain ⟨hb5, hk5⟩ := sets2 w4 gb 26 _ _ (.slice Ae r1.length ce) (.slice Af r2.length cf_) BC4.out
            rw [hw5] at hb5 hk5
            have hg1 := HGN.out.1
            have hg2 := HGN.out.2
            have hz := HBW.out.size
            have hR : ∀ (v : Value) (r : List Int), Kd.R (Kd.int .i64) 3 w3 w2.heap.size (fun _ => True) v r → Stays (fun q => q = gb) w5 v r := fun v r h => by
              have h1 := R_kept_ (Kd.R_mono (Kd.R_bound h) (ok' := fun q => w2.heap.size ≤ q) (fun q hq => hq.2.1)) HK4.out (fun q hq he => by omega)
              have h2 := R_kept_ h1 hk5 (fun q hq he => by omega)
              exact Stays.of_R h2 (fun q hq => by omega)
            refine ⟨⟨k + 1, _, _, r1, r2, by first | rfl | (rw [hwk]; rfl), hlk, ⟨?_⟩, ⟨hb5⟩, ⟨blk_kept hk5 BR4.out (by omega)⟩, ⟨hR _ r1 HR0.out⟩, ⟨hR _ r2 HR1.out⟩, ⟨?_⟩⟩, meas_step hlk (by first | rfl | exact hwk)⟩
            · have hk1 : Kept (fun q => q = gb ∨ q = gy) wr w5 := (((Kept.of_below (F := fun q => q = gb ∨ q = gy) HBW.out).below HB3.out).trans (fun q hq => .inl (.inr hq)) HK4.out).trans (fun q hq => .inl (.inl hq)) hk5
              have hgb := HGB.out
              have hgx := HGX.out
              have hgy := HGY.out
              have hs := HB.out.size
              exact below_kept HB.out hs (fun q hq => by rcases hq with hq | hq <;> omega) hk1
            · rw [HCFN.out, HCF2.out, if_pos HR3.out]
        · have d3 : (r3 == 0) = false := beq_eq_false_iff_ne.mpr hr3
          have HR3 := Aside0.mk hr3
          clear hr3
          go_upto_region 13 with (first
            | (go_at_call 74; refine (conf_Leave.calls Ao co ov An cn nv r1 r2 r3 _ HCa.out Hco.out HCb.out Hcn.out HRF.out).mono ?_; rintro e_ w3 ⟨v0_, v1_, rfl, hr0_, hr1_, hb3_⟩; obtain ⟨Ae, ce, e0_⟩ := Kd.R_slice hr0_; obtain ⟨Af, cf_, e1_⟩ := Kd.R_slice hr1_; subst e0_; subst e1_; have HR0 := Aside0.mk (Kd.R_mono hr0_ (fun _ _ => trivial) : Kd.R (Kd.int .i64) 3 w3 w2.heap.size (fun _ => True) (.slice Ae r1.length ce) r1); have HR1 := Aside0.mk (Kd.R_mono hr1_ (fun _ _ => trivial) : Kd.R (Kd.int .i64) 3 w3 w2.heap.size (fun _ => True) (.slice Af r2.length cf_) r2); have HB3 := Aside0.mk hb3_; have hv0 := blk_cell (blk_below BY.out hb3_) 0; have hv1 := blk_cell (blk_below BY.out hb3_) 1; have hw0 := blk_frozen (blk_below BY.out hb3_) 0; have hw1 := blk_frozen (blk_below BY.out hb3_) 1; clear hr0_ hr1_ hb3_))
          generalize hw4 : World.setCell _ _ _ = w4
          obtain ⟨hb4, hk4_⟩ := sets2 w3 gy 26 _ _ (.slice Ae r1.length ce) (.slice Af r2.length cf_) (blk_below BY.out HB3.out)
          rw [hw4] at hb4 hk4_
          have HK4 := Aside0.mk hk4_
          have BC4 := Aside0.mk (blk_kept hk4_ (blk_below BC2.out HB3.out) HNE.out)
          have BR4 := Aside0.mk (blk_kept hk4_ (blk_below BR2.out HB3.out) (by have h1 := blk_lt BR.out; have h2 := HGY.out; omega))
          clear hw4 hb4 hk4_
          go_wp2
          case roundEnd =>
            have hg1 := HGN.out.1
            have hg2 := HGN.out.2
            have hz := HBW.out.size
            have hgb := HGB.out
            have hgx := HGX.out
            have hgy := HGY.out
            have hs := HB.out.size
            have hk1 : Kept (fun q => q = gy) wr w4 := ((Kept.of_below (F := fun q => q = gy) HBW.out).below HB3.out).trans (fun q hq => .inl hq) HK4.out
            refine ⟨⟨k + 1, _, _, ov, nv, by first | rfl | (rw [hwk]; rfl), hlk, ⟨below_kept HB.out hs (fun q hq => by omega) hk1⟩, BC4, BR4, ⟨HSo.out.kept hk1 (fun q hq => .inr (by omega)) (fun q hq => .inl hq)⟩, ⟨HSn.out.kept hk1 (fun q hq => .inr (by omega)) (fun q hq => .inl hq)⟩, ⟨?_⟩⟩, meas_step hlk (by first | rfl | exact hwk)⟩
            rw [HCFN.out, HCF2.out, if_neg HR3.out]
      have d2 : (y.f1.f0 == 2) = false := beq_eq_false_iff_ne.mpr hk2
      have d4 : (y.f1.f0 == 4) = false := beq_eq_false_iff_ne.mpr hk4
      have hcf0 : cf1 ov nv y.f1.f0 y.f1.f4 = (ov, nv) := by unfold cf1; rw [if_neg hk2, if_neg hk4]
      have HCF0 := Aside0.mk hcf0
      clear hk2 hk4 hcf0
      obtain ⟨kd, hkd⟩ : ∃ kd, y.f1.f0 = kd := ⟨_, rfl⟩
      rw [hkd] at d2 d4 hx1
      have hcases : ((kd == 0) = true ∨ (kd == 0) = false) ∧ ((kd == 1) = true ∨ (kd == 1) = false) ∧ ((kd == 3) = true ∨ (kd == 3) = false) := ⟨by cases kd == 0 <;> simp, by cases kd == 1 <;> simp, by cases kd == 3 <;> simp⟩
      obtain ⟨h0, h1, h3⟩ := hcases
      clear hkd
      rcases h0 with h0 | h0 <;> rcases h1 with h1 | h1 <;> rcases h3 with h3 | h3
      all_goals
        go_wp2
        case roundEnd =>
          refine ⟨⟨k + 1, _, _, ov, nv, by first | rfl | (rw [hwk]; rfl), hlk, ⟨below_then HB.out HB.out.size HBW.out⟩, BC2, BR2, ⟨HSo.out.kept (K' := fun _ => False) (Kept.of_below HBW.out) (fun q hq => hq.elim) (fun q hq => .inl hq)⟩, ⟨HSn.out.kept (K' := fun _ => False) (Kept.of_below HBW.out) (fun q hq => hq.elim) (fun q hq => .inl hq)⟩, ⟨?_⟩⟩, meas_step hlk (by first | rfl | exact hwk)⟩
          rw [HCFN.out, HCF0.out]
    · have q1 := eq_false (show ¬ (k : Int) < (l.length : Int) by omega)
      have hkl : k = l.length := by omega
      subst hkl
      rw [List.take_length] at HCF
      have hle3 := HLE.out
      clear hk hlk hle3
      go_wp2
      have HBD := Aside0.mk (show Below wr.heap.size wr wr.drew from below_drew (Below.refl _ _))
      have BCD := Aside0.mk (blk_below BC.out HBD.out)
      have BRD := Aside0.mk (blk_below BR.out HBD.out)
      have HCa := Aside0.mk (HCo.out wr.drew (Kept.of_below HBD.out))
      have HCb := Aside0.mk (HCn.out wr.drew (Kept.of_below HBD.out))
      have HWD := Aside0.mk (below_then HB.out HB.out.size HBD.out)
      clear hb0 hb1 hz0 hz1
      refine start_ (n := 8) (S := fun w' => w'.cell? ⟨gb, 0, none⟩ = some (Value.slice Ao ov.length co) ∧ w'.cell? ⟨gb, 1, none⟩ = some (Value.slice An nv.length cn)) (ds := [7]) #[false, false, false, false, false, false, false, false] (by kernel_rfl) rfl rfl ⟨(blk_cell BCD.out 0).trans rfl, (blk_cell BCD.out 1).trans rfl⟩ (fun hHeld => ?_)
      generalize wr.drew = wd at HBD BCD BRD HCa HCb HWD hHeld ⊢
      refine pure_ (i := 0) (N := some 47) (v := ?_) (a' := ?_) #[true, false, false, false, false, false, false, false] rfl rfl (by kernel_rfl) (fun _ _ _ h => h) (Or.inl ⟨by rfl, ?_⟩) ?_ ?_
      rotate_left
      · intro w'
        go_simp
        with_reducible rfl
      rotate_left
      · simp only [Act.put, List.setIfInBounds_toArray, List.set_cons_zero, List.set_cons_succ, i64_w, i32_w]
        rfl
      refine pure_ (i := 3) (N := some 50) (v := ?_) (a' := ?_) #[true, false, false, true, false, false, false, false] rfl rfl (by kernel_rfl) (fun _ _ _ h => h) (Or.inl ⟨by rfl, ?_⟩) ?_ ?_
      rotate_left
      · intro w'
        go_simp
        with_reducible rfl
      rotate_left
      · simp only [Act.put, List.setIfInBounds_toArray, List.set_cons_zero, List.set_cons_succ, i64_w, i32_w]
        rfl
      refine take_ (i := 1) (N := some 48) (v := ?_) (a' := ?_) #[true, true, false, true, false, false, false, false] rfl rfl (by kernel_rfl) (fun _ _ _ h => h) (Or.inl ⟨by rfl, ?_⟩) hHeld ?_ ?_
      rotate_left
      · rintro w' ⟨s0, s1⟩
        go_simp
        with_reducible rfl
      rotate_left
      · simp only [Act.put, List.setIfInBounds_toArray, List.set_cons_zero, List.set_cons_succ, i64_w, i32_w]
        rfl
      refine take_ (i := 4) (N := some 51) (v := ?_) (a' := ?_) #[true, true, false, true, true, false, false, false] rfl rfl (by kernel_rfl) (fun _ _ _ h => h) (Or.inl ⟨by rfl, ?_⟩) hHeld ?_ ?_
      rotate_left
      · rintro w' ⟨s0, s1⟩
        go_simp
        with_reducible rfl
      rotate_left
      · simp only [Act.put, List.setIfInBounds_toArray, List.set_cons_zero, List.set_cons_succ, i64_w, i32_w]
        rfl
      refine one_ (i := 2) (N := some 49) #[true, true, true, true, true, false, false, false] rfl rfl (by kernel_rfl) (by decide) (fun K hK => ?_)
      refine goes_ Try.func58 (by kernel_rfl) rfl #[.slice Ao ov.length co] (by rfl) rfl rfl (by simp only [List.map_toArray, List.map_cons, List.map_nil]; rfl) ?_
      with_reducible refine (slices_Clone_int_int.calls Ao co ov ov _ HCa.out Hco.out (CP.clone_f ov (by have := HLE.out; omega))).mono ?_
      rintro e_ w3 ⟨v_, rfl, hr_, hb_⟩
      refine ⟨_, rfl, ?_⟩
      have HB3 := Aside0.mk hb_
      have HR3 := Aside0.mk hr_
      obtain ⟨Ae, ce, e0_⟩ := Kd.R_slice hr_
      subst e0_
      clear hr_ hb_
      refine hK.out _ _ ⟨pw_cell_below HB3.out hHeld.1, pw_cell_below HB3.out hHeld.2⟩ (fun hHeld => ?_)
      clear hK K
      refine norm_ (a' := ?_) ?_ ?_
      rotate_left
      · show Act.put _ (some 49) _ = _
        simp only [Act.put, List.setIfInBounds_toArray, List.set_cons_zero, List.set_cons_succ, i64_w, i32_w]
        rfl
      refine one_ (i := 5) (N := some 52) #[true, true, true, true, true, true, false, false] rfl rfl (by kernel_rfl) (by decide) (fun K hK => ?_)
      refine goes_ Try.func58 (by kernel_rfl) rfl #[.slice An nv.length cn] (by rfl) rfl rfl (by simp only [List.map_toArray, List.map_cons, List.map_nil]; rfl) ?_
      with_reducible refine (slices_Clone_int_int.calls An cn nv nv _ (Kd.C_below HCb.out HB3.out) Hcn.out (CP.clone_f nv (by have := HLE.out; omega))).mono ?_
      rintro e_ w4 ⟨v_, rfl, hr_, hb_⟩
      refine ⟨_, rfl, ?_⟩
      have HB4 := Aside0.mk hb_
      have HR4 := Aside0.mk hr_
      obtain ⟨Af, cf_, e0_⟩ := Kd.R_slice hr_
      subst e0_
      clear hr_ hb_
      refine hK.out _ _ ⟨pw_cell_below HB4.out hHeld.1, pw_cell_below HB4.out hHeld.2⟩ (fun hHeld => ?_)
      clear hK K
      refine norm_ (a' := ?_) ?_ ?_
      rotate_left
      · show Act.put _ (some 52) _ = _
        simp only [Act.put, List.setIfInBounds_toArray, List.set_cons_zero, List.set_cons_succ, i64_w, i32_w]
        rfl
      refine pure_ (i := 6) (N := some 53) (v := ?_) (a' := ?_) #[true, true, true, true, true, true, true, false] rfl rfl (by kernel_rfl) (fun _ _ _ h => h) (Or.inl ⟨by rfl, ?_⟩) ?_ ?_
      rotate_left
      · intro w'
        go_simp
        with_reducible rfl
      rotate_left
      · simp only [Act.put, List.setIfInBounds_toArray, List.set_cons_zero, List.set_cons_succ, i64_w, i32_w]
        rfl
      refine last_ (i := 7) (N := none) #[true, true, true, true, true, true, true, true] rfl rfl (by kernel_rfl) (by decide) (fun K hK => ?_)
      have hbb4 := blk_below (blk_below BRD.out HB3.out) HB4.out
      have BR4 := Aside0.mk hbb4
      have hs50 := blk_cell hbb4 0
      have hs51 := blk_cell hbb4 1
      have hf50 := blk_frozen hbb4 0
      have hf51 := blk_frozen hbb4 1
      clear hbb4
      refine skip_ (w1 := ?_) (by rfl) rfl ?_ ?_
      rotate_left
      · go_simp
        rfl
      refine hK.out _ _ ?_
      clear hK K
      refine done_ (by kernel_rfl) ?_
      clear hHeld hs50 hs51 hf50 hf51
      go_wp2
      obtain ⟨hb6, hk6⟩ := sets2 w4 (gb + 1) 26 _ _ (.slice Ae ov.length ce) (.slice Af nv.length cf_) BR4.out
      have hwd := HWD.out.size
      have hbd := blk_lt BRD.out
      have hgb := HGB.out
      have h34 := HB3.out.size
      have hR : ∀ (B' : Nat) (v : Value) (r : List Int), wd.heap.size ≤ B' → Kd.R (Kd.int .i64) 3 w4 B' (fun _ => True) v r → Kd.R (Kd.int .i64) 3 ((w4.setCell ⟨gb + 1, 0, none⟩ (.slice Ae ov.length ce)).setCell ⟨gb + 1, 1, none⟩ (.slice Af nv.length cf_)) W.heap.size (fun _ => True) v r := fun B' v r hB h =>
        Kd.R_mono (Kd.R_lower (R_kept_ (Kd.R_mono (Kd.R_bound h) (ok' := fun q => B' ≤ q) (fun q hq => hq.2.1)) hk6 (fun q hq he => by omega)) (by omega)) (fun _ _ => trivial)
      refine bodyPost_ret (results_cell_row rfl _ _ (gb + 1) 26 #[.slice Ae ov.length ce, .slice Af nv.length cf_] (0, 0) _ rfl hb6 Try.underlying26 rfl (by kernel_rfl)) rfl ?_
      refine CPost.mk ?_ ?_ ?_
      · rw [HCF.out]
        exact hR _ _ _ (Nat.le_refl _) (Kd.R_below HR3.out HB4.out)
      · rw [HCF.out]
        exact hR _ _ _ h34 HR4.out
      · exact below_kept (below_then HWD.out hwd (below_then HB3.out HB3.out.size HB4.out)) (by have := HB4.out.size; omega) (fun q hq => by subst hq; omega) hk6

end Go.Proofs.Ytbomomaidglegaa.Hist
