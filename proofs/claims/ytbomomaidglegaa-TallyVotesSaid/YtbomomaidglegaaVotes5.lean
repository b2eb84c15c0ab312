/- The document's votes in memory; its Add, by hand. -/
import Derived.Test.YtbomomaidglegaaVotes4
namespace Go.Proofs.Ytbomomaidglegaa.Votes
open Go Go.RowKit Go.Maps Go.Proofs.Ytbomomaidglegaa.XTally Go.Proofs.YtbomomaidglegaaW.PrintWords Go.Proofs.YtbomomaidglegaaW.PrintLast Go.Proofs.YtbomomaidglegaaW.PrintMore
set_option linter.unusedVariables false
set_option linter.unusedSimpArgs false

/-- A row of numbers among the blocks below Z. -/
def Rz (B Z : Nat) (W : World) (v : Value) (l : List Int) : Prop := Kd.R (Kd.int .i64) 3 W B (fun k => k < Z) v l
theorem Rz.kept {B Z : Nat} {W W' : World} {v : Value} {l : List Int} {F : Nat → Prop} (h : Rz B Z W v l) (hk : Kept F W W') (hF : ∀ k, F k → k < Z → ∀ cs, W.heap[k]? ≠ some (.cells cs 3 (0, 0))) : Rz B Z W' v l :=
  Kd.R_mono (Kd.R_step (Kd.R_bound h) (fun k hok hlt => hk.block k hlt (fun hf => by
    obtain ⟨h1, _, _, q, hq, cs, hc⟩ := hok
    have hq' : q ∈ [3] := hq
    have := List.mem_singleton.1 hq'
    subst this
    exact hF k hf h1 cs hc))) (fun k h => h.1)
/-- Below Z nothing but the document's votes is written. -/
def Far (Z : Nat) (W : World) (F : Nat → Prop) : Prop := ∀ k, F k → k < Z → ∃ cs, W.heap[k]? = some (.cells cs 41 (0, 0))
theorem Rz.far {B Z : Nat} {W W' : World} {v : Value} {l : List Int} {F : Nat → Prop} (h : Rz B Z W v l) (hk : Kept F W W') (hF : Far Z W F) : Rz B Z W' v l :=
  h.kept hk (fun k hf hz cs hc => by
    obtain ⟨cs', h'⟩ := hF k hf hz
    rw [hc] at h'
    injection h' with h'
    injection h' with _ h'
    exact absurd h' (by decide))
theorem Rz.map {B Z : Nat} {W W' : World} {v : Value} {l : List Int} {gm N : Nat} {D : DataW Unit} (h : Rz B Z W v l) (hk : Kept (fun k => k = gm) W W') (hm : W.ownsMap Try.prog 3 (plainElem (H := Unit) Try.prog 4) gm N D) : Rz B Z W' v l :=
  h.kept hk (fun k hf hz cs hc => by subst hf; exact map_not_cells hm hc rfl)
theorem blk_far {Z : Nat} {W W' : World} {F : Nat → Prop} {g : Nat} {cs : Array Value} {t : TypeId} (hk : Kept F W W') (hF : Far Z W F) (h : W.heap[g]? = some (.cells cs t (0, 0))) (hz : g < Z) (ht : t ≠ 41) : W'.heap[g]? = some (.cells cs t (0, 0)) :=
  blk_kept hk h (fun hf => by
    obtain ⟨cs', h'⟩ := hF g hf hz
    rw [h] at h'
    injection h' with h'
    injection h' with _ h'
    exact ht h')
theorem map_far {Z : Nat} {W W' : World} {F : Nat → Prop} {gm N : Nat} {D : DataW Unit} (hk : Kept F W W') (hF : Far Z W F) (hm : W.ownsMap Try.prog 3 (plainElem (H := Unit) Try.prog 4) gm N D) (hz : gm < Z) : W'.ownsMap Try.prog 3 (plainElem (H := Unit) Try.prog 4) gm N D := by
  obtain ⟨es, clock, h, rest⟩ := hm
  refine ⟨es, clock, (hk.block gm (blk_lt h) (fun hf => ?_)).trans h, rest⟩
  obtain ⟨cs', h'⟩ := hF gm hf hz
  rw [h] at h'
  injection h' with h'
  cases h'

/-- Votes, all of whose blocks lie below Z. -/
def Vz (B Z : Nat) (W : World) (gv gm : Nat) (o n : List Int) (vs : List (Int × Bool)) : Prop :=
  ∃ Ao co An cn, W.heap[gv]? = some (.cells #[.slice Ao o.length co, .slice An n.length cn, .map (some gm)] 97 (0, 0)) ∧ Rz B Z W (.slice Ao o.length co) o ∧ Rz B Z W (.slice An n.length cn) n ∧
    W.ownsMap Try.prog 3 (plainElem (H := Unit) Try.prog 4) gm vs.length (Dv vs) ∧ B ≤ gv ∧ B ≤ gm ∧ gv < Z ∧ gm < Z
theorem IsV.toVz {B : Nat} {W : World} {gv gm : Nat} {o n : List Int} {vs : List (Int × Bool)} (h : IsV B W gv gm o n vs) : Vz B W.heap.size W gv gm o n vs := by
  obtain ⟨Ao, co, An, cn, hg, h1, h2, hm, hB, hC⟩ := h
  exact ⟨Ao, co, An, cn, hg, Kd.R_mono (Kd.R_bound h1) (fun k h => h.2.2.1), Kd.R_mono (Kd.R_bound h2) (fun k h => h.2.2.1), hm, hB, hC, blk_lt hg, by obtain ⟨es, clock, h, _⟩ := hm; exact blk_lt h⟩
theorem Vz.isV {B Z : Nat} {W : World} {gv gm : Nat} {o n : List Int} {vs : List (Int × Bool)} (h : Vz B Z W gv gm o n vs) : IsV B W gv gm o n vs := by
  obtain ⟨Ao, co, An, cn, hg, h1, h2, hm, hB, hC, _, _⟩ := h
  exact ⟨Ao, co, An, cn, hg, Kd.R_mono h1 (fun _ _ => trivial), Kd.R_mono h2 (fun _ _ => trivial), hm, hB, hC⟩
theorem Vz.far {B Z : Nat} {W W' : World} {gv gm : Nat} {o n : List Int} {vs : List (Int × Bool)} {F : Nat → Prop} (h : Vz B Z W gv gm o n vs) (hk : Kept F W W') (hF : Far Z W F) : Vz B Z W' gv gm o n vs := by
  obtain ⟨Ao, co, An, cn, hg, h1, h2, hm, hB, hC, hz1, hz2⟩ := h
  exact ⟨Ao, co, An, cn, blk_far hk hF hg hz1 (by decide), h1.far hk hF, h2.far hk hF, map_far hk hF hm hz2, hB, hC, hz1, hz2⟩
theorem Vz.add {B Z : Nat} {W W' : World} {gv gm : Nat} {o n : List Int} {vs vs' : List (Int × Bool)} (h : Vz B Z W gv gm o n vs) (hk : Kept (fun k => k = gm) W W') (hv : IsV B W' gv gm o n vs') : Vz B Z W' gv gm o n vs' := by
  obtain ⟨Ao, co, An, cn, hg, h1, h2, hm, hB, hC, hz1, hz2⟩ := h
  obtain ⟨_, _, _, _, _, _, _, hm', _, _⟩ := hv
  exact ⟨Ao, co, An, cn, blk_kept hk hg (fun e => map_not_cells hm hg e), h1.map hk hm, h2.map hk hm, hm', hB, hC, hz1, hz2⟩
theorem Vz.map {B Z : Nat} {W : World} {gv gm : Nat} {o n : List Int} {vs : List (Int × Bool)} (h : Vz B Z W gv gm o n vs) : W.ownsMap Try.prog 3 (plainElem (H := Unit) Try.prog 4) gm vs.length (Dv vs) := by
  obtain ⟨_, _, _, _, _, _, _, hm, _⟩ := h
  exact hm
/-- A configuration below Z. -/
def Cz (B Z : Nat) (W : World) (gc : Nat) (A0 : Option Addr) (c0 : Nat) (o : List Int) (A1 : Option Addr) (c1 : Nat) (n : List Int) : Prop :=
  W.heap[gc]? = some (.cells #[.slice A0 o.length c0, .slice A1 n.length c1] 26 (0, 0)) ∧ Rz B Z W (.slice A0 o.length c0) o ∧ Rz B Z W (.slice A1 n.length c1) n ∧ gc < Z
theorem Cz.far {B Z : Nat} {W W' : World} {gc : Nat} {A0 : Option Addr} {c0 : Nat} {o : List Int} {A1 : Option Addr} {c1 : Nat} {n : List Int} {F : Nat → Prop} (h : Cz B Z W gc A0 c0 o A1 c1 n) (hk : Kept F W W') (hF : Far Z W F) : Cz B Z W' gc A0 c0 o A1 c1 n :=
  ⟨blk_far hk hF h.1 h.2.2.2 (by decide), h.2.1.far hk hF, h.2.2.1.far hk hF, h.2.2.2⟩
theorem Cz.map {B Z : Nat} {W W' : World} {gc : Nat} {A0 : Option Addr} {c0 : Nat} {o : List Int} {A1 : Option Addr} {c1 : Nat} {n : List Int} {gm N : Nat} {D : DataW Unit} (h : Cz B Z W gc A0 c0 o A1 c1 n) (hk : Kept (fun k => k = gm) W W') (hm : W.ownsMap Try.prog 3 (plainElem (H := Unit) Try.prog 4) gm N D) : Cz B Z W' gc A0 c0 o A1 c1 n :=
  ⟨blk_kept hk h.1 (fun e => map_not_cells hm h.1 e), h.2.1.map hk hm, h.2.2.1.map hk hm, h.2.2.2⟩
/-- The document's votes: a configuration, who said yes, who said no. -/
def Wz (B Z : Nat) (W : World) (gw : Nat) (o n yes no : List Int) : Prop :=
  ∃ Ao co An cn Ay cy Aw cw, W.heap[gw]? = some (.cells #[.slice Ao o.length co, .slice An n.length cn, .slice Ay yes.length cy, .slice Aw no.length cw] 41 (0, 0)) ∧ Rz B Z W (.slice Ao o.length co) o ∧ Rz B Z W (.slice An n.length cn) n ∧
    Kd.R (Kd.int .i64) 3 W Z (fun k => some k ≠ (Value.slice Aw no.length cw).ownBlock) (.slice Ay yes.length cy) yes ∧ Kd.R (Kd.int .i64) 3 W Z (fun k => some k ≠ (Value.slice Ay yes.length cy).ownBlock) (.slice Aw no.length cw) no ∧ gw < Z ∧ B ≤ gw ∧ Z ≤ W.heap.size
theorem Wz.map {B Z : Nat} {W W' : World} {gw : Nat} {o n yes no : List Int} {gm N : Nat} {D : DataW Unit} (h : Wz B Z W gw o n yes no) (hk : Kept (fun k => k = gm) W W') (hm : W.ownsMap Try.prog 3 (plainElem (H := Unit) Try.prog 4) gm N D) : Wz B Z W' gw o n yes no := by
  obtain ⟨Ao, co, An, cn, Ay, cy, Aw, cw, hg, h1, h2, hy, hw, hz, hB, hs⟩ := h
  have key : ∀ (ok : Nat → Prop) (v : Value) (l : List Int), Kd.R (Kd.int .i64) 3 W Z ok v l → Kd.R (Kd.int .i64) 3 W' Z ok v l := fun ok v l h =>
    Kd.R_mono (Kd.R_step (Kd.R_bound h) (fun k hok hlt => hk.block k hlt (fun hf => by
      subst hf
      obtain ⟨_, _, _, q, hq, cs, hc⟩ := hok
      exact map_not_cells hm hc rfl))) (fun k h => h.1)
  exact ⟨Ao, co, An, cn, Ay, cy, Aw, cw, blk_kept hk hg (fun e => map_not_cells hm hg e), h1.map hk hm, h2.map hk hm, key _ _ _ hy, key _ _ _ hw, hz, hB, Nat.le_trans hs hk.size⟩
theorem Wz.below {B Z : Nat} {W W' : World} {gw : Nat} {o n yes no : List Int} (h : Wz B Z W gw o n yes no) (hb : Below W.heap.size W W') : Wz B Z W' gw o n yes no := by
  obtain ⟨Ao, co, An, cn, Ay, cy, Aw, cw, hg, h1, h2, hy, hw, hz, hB, hs⟩ := h
  exact ⟨Ao, co, An, cn, Ay, cy, Aw, cw, blk_below hg hb, Kd.R_below h1 hb, Kd.R_below h2 hb, Kd.R_below hy hb, Kd.R_below hw hb, hz, hB, Nat.le_trans hs hb.size⟩
theorem Vz.below {B Z : Nat} {W W' : World} {gv gm : Nat} {o n : List Int} {vs : List (Int × Bool)} (h : Vz B Z W gv gm o n vs) (hb : Below W.heap.size W W') : Vz B Z W' gv gm o n vs := h.far (F := fun _ => False) (Kept.of_below hb |>.imp (fun _ h => .inl h)) (fun _ h => h.elim)
theorem Cz.below {B Z : Nat} {W W' : World} {gc : Nat} {A0 : Option Addr} {c0 : Nat} {o : List Int} {A1 : Option Addr} {c1 : Nat} {n : List Int} (h : Cz B Z W gc A0 c0 o A1 c1 n) (hb : Below W.heap.size W W') : Cz B Z W' gc A0 c0 o A1 c1 n := h.far (F := fun _ => False) (Kept.of_below hb |>.imp (fun _ h => .inl h)) (fun _ h => h.elim)
theorem far_of {Z : Nat} {W : World} {gw : Nat} {B : Nat} {o n yes no : List Int} (h : Wz B Z W gw o n yes no) : Far Z W (fun k => k = gw ∨ Z ≤ k) := by
  obtain ⟨Ao, co, An, cn, Ay, cy, Aw, cw, hg, _⟩ := h
  rintro k (rfl | hk) hz
  · exact ⟨_, hg⟩
  · omega

def rOk (o n yes no : List Int) (x : Int) : Bool := decide (x ∈ o ∨ x ∈ n) && !decide (x ∈ yes) && !decide (x ∈ no)
def rYes (o n yes no : List Int) (x : Int) (y : Bool) : List Int := if (rOk o n yes no x && y) = true then yes ++ [x] else yes
def rNo (o n yes no : List Int) (x : Int) (y : Bool) : List Int := if (rOk o n yes no x && !y) = true then no ++ [x] else no
def RAddPost (B Z : Nat) (W : World) (gw : Nat) (o n yes no : List Int) (x : Int) (y : Bool) (e : Ending) (W' : World) : Prop :=
  e = .returned (.bool (rOk o n yes no x)) ∧ Kept (fun k => k = gw ∨ Z ≤ k) W W' ∧ Wz B Z W' gw o n (rYes o n yes no x y) (rNo o n yes no x y)

set_option maxHeartbeats 1000000 in
set_option maxRecDepth 100000 in
theorem radd_calls {B Z : Nat} {W : World} {gw : Nat} {o n yes no : List Int} (h : Wz B Z W gw o n yes no) (ho : o.length ≤ 1000) (hn : n.length ≤ 1000) (hy : yes.length ≤ 1000) (hw : no.length ≤ 1000) (x : Int) (y : Bool) :
    Calls Try.prog 23 #[.pointer (some ⟨gw, 0, none⟩), .int .i64 x, .bool y] W (RAddPost B Z W gw o n yes no x y) := by
  have HW := Aside0.mk h
  obtain ⟨Ao, co, An, cn, Ay, cy, Aw, cw, hg, h1, h2, h3, h4, hz, hB, hs⟩ := h
  have c0 : W.cell? ⟨gw, 0, none⟩ = some (.slice Ao o.length co) := (blk_cell hg 0).trans rfl
  have c1 : W.cell? ⟨gw, 1, none⟩ = some (.slice An n.length cn) := (blk_cell hg 1).trans rfl
  have hu26 := Try.underlying26
  have HO := Aside0.mk (Kd.R_reads' h1)
  have HN := Aside0.mk (Kd.R_reads' h2)
  have HY := Aside0.mk h3
  have HX := Aside0.mk h4
  have HG := Aside0.mk hg
  have HI := Aside0.mk (in8_f o n x ho hn 1001 (by omega))
  have HIY := Aside0.mk (in9_f yes x (by omega) 1001 (by omega))
  have HIN := Aside0.mk (in9_f no x (by omega) 1001 (by omega))
  have HLY := Aside0.mk hy
  have HLN := Aside0.mk hw
  have HS := Aside0.mk hs
  have HZ := Aside0.mk hz
  clear h1 h2 h3 h4 hg ho hn hy hw
  go_enter Try.func23, Try.ntmps23
  by_cases hi : x ∈ o ∨ x ∈ n
  · by_cases hxy : x ∈ yes
    · have hok : rOk o n yes no x = false := by unfold rOk; simp [hxy]
      go_wp2_with (first
        | (go_at_call 60; refine (synodalref8_In.calls 1001 Ao co o An cn n x true _ HO.out.2.2 HO.out.2.1 HN.out.2.2 HN.out.2.1 (by rw [HI.out]; simp [hi])).mono ?_; rintro e w4 ⟨rfl, hb4⟩; have HB4 := Aside0.mk hb4; have HG4 := Aside0.mk (blk_below HG.out hb4); have d2 : w4.cell? ⟨gw, 2, none⟩ = some (.slice Ay yes.length cy) := (blk_cell HG4.out 2).trans rfl; clear hb4)
        | (go_at_call 61; have hq_ := HB4.out; clear hq_; refine (synodalref9_in.calls 1001 Ay cy yes x true _ (Kd.C_below (Kd.R_reads' HY.out).2.2 HB4.out) (Kd.R_reads' HY.out).2.1 (by rw [HIY.out]; simp [hxy])).mono ?_; rintro e w5 ⟨rfl, hd5⟩; have HD5 := Aside0.mk hd5; have HG5 := Aside0.mk (blk_below HG4.out (drawn_below hd5)); have d3 : w5.cell? ⟨gw, 3, none⟩ = some (.slice Aw no.length cw) := (blk_cell HG5.out 3).trans rfl; clear hd5)
        | go_in)
      go_ret
      exact ⟨by rw [hok]; rfl, (Kept.of_below (below_then HB4.out HB4.out.size (drawn_below HD5.out))).imp (F := fun _ => False) (fun _ h => False.elim h), by unfold rYes rNo; rw [hok]; exact HW.out.below (below_then HB4.out HB4.out.size (drawn_below HD5.out))⟩
    · by_cases hxn : x ∈ no
      · have hok : rOk o n yes no x = false := by unfold rOk; simp [hxn]
        go_wp2_with (first
          | (go_at_call 61; have hq_ := HD5.out; clear hq_; refine (synodalref9_in.calls 1001 Aw cw no x true _ (Kd.C_below (Kd.C_below (Kd.R_reads' HX.out).2.2 HB4.out) (drawn_below HD5.out)) (Kd.R_reads' HX.out).2.1 (by rw [HIN.out]; simp [hxn])).mono ?_; rintro e w6 ⟨rfl, hd6⟩; have HD6 := Aside0.mk hd6; have HG6 := Aside0.mk (blk_below HG5.out (drawn_below hd6)); have f2 : w6.cell? ⟨gw, 2, none⟩ = some (.slice Ay yes.length cy) := (blk_cell HG6.out 2).trans rfl; have f3 : w6.cell? ⟨gw, 3, none⟩ = some (.slice Aw no.length cw) := (blk_cell HG6.out 3).trans rfl; have HBX := Aside0.mk (below_then (below_then HB4.out HB4.out.size (drawn_below HD5.out)) (Nat.le_trans HB4.out.size (drawn_below HD5.out).size) (drawn_below hd6)); have HY6 := Aside0.mk (Kd.R_below HY.out HBX.out); have HX6 := Aside0.mk (Kd.R_below HX.out HBX.out); have HS6 := Aside0.mk (Nat.le_trans HS.out HBX.out.size); clear hd6)
          | (go_at_call 61; have hq_ := HB4.out; clear hq_; refine (synodalref9_in.calls 1001 Ay cy yes x false _ (Kd.C_below (Kd.R_reads' HY.out).2.2 HB4.out) (Kd.R_reads' HY.out).2.1 (by rw [HIY.out]; simp [hxy])).mono ?_; rintro e w5 ⟨rfl, hd5⟩; have HD5 := Aside0.mk hd5; have HG5 := Aside0.mk (blk_below HG4.out (drawn_below hd5)); have d3 : w5.cell? ⟨gw, 3, none⟩ = some (.slice Aw no.length cw) := (blk_cell HG5.out 3).trans rfl; clear hd5)
          | (go_at_call 60; refine (synodalref8_In.calls 1001 Ao co o An cn n x true _ HO.out.2.2 HO.out.2.1 HN.out.2.2 HN.out.2.1 (by rw [HI.out]; simp [hi])).mono ?_; rintro e w4 ⟨rfl, hb4⟩; have HB4 := Aside0.mk hb4; have HG4 := Aside0.mk (blk_below HG.out hb4); have d2 : w4.cell? ⟨gw, 2, none⟩ = some (.slice Ay yes.length cy) := (blk_cell HG4.out 2).trans rfl; clear hb4)
          | go_in)
        go_ret
        exact ⟨by rw [hok]; rfl, (Kept.of_below (below_then (below_then HB4.out HB4.out.size (drawn_below HD5.out)) (Nat.le_trans HB4.out.size (drawn_below HD5.out).size) (drawn_below HD6.out))).imp (F := fun _ => False) (fun _ h => False.elim h), by unfold rYes rNo; rw [hok]; exact HW.out.below (below_then (below_then HB4.out HB4.out.size (drawn_below HD5.out)) (Nat.le_trans HB4.out.size (drawn_below HD5.out).size) (drawn_below HD6.out))⟩
      · have hok : rOk o n yes no x = true := by unfold rOk; simp [hxy, hxn, hi]
        have HOK := Aside0.mk hok
        clear hok
        cases y
        case true =>
          go_wp2_with (first
            | ((with_reducible refine gate_builtin (b := .append) (xs := #[.tmp 35, .tmp 37]) rfl ?_); at_builtin; refine Kd.R_append (Kd.int .i64) (w0 := w6) Z rfl (.tmp 35) (.tmp 37) 24 3 (.int .i64 0) 8 rfl Try.underlying24 Reach.info3 rfl (by decide) (by omega) (.slice Ay yes.length cy) yes x [.int .i64 x] (fun k => some k ≠ (Value.slice Aw no.length cw).ownBlock) (fun _ => False) rfl rfl rfl (fun _ hk => hk.elim) ?aF HY6.out (Below.refl _ _) ?aS ?aL ?_; (case aF => intro k hk he; have h1 := ((Kd.R_bound HX6.out).1 k he.symm).2.2.1; omega); (case aS => exact HS6.out); (case aL => have := HLY.out; omega); intro v7 w7 ho_ hb_ hg_ hat_; obtain ⟨A7, c7, rfl⟩ := Kd.R_slice ho_; have HO7 := Aside0.mk ho_; have HG7 := Aside0.mk hg_; have HB7 := Aside0.mk (blk_grown HG6.out hg_ (fun e => by have h1 := (Kd.R_bound HY6.out).1 gw e.symm; have h2 := HZ.out; omega)); have g2 := blk_cell HB7.out 2; have k2 := blk_frozen HB7.out 2; clear ho_ hb_ hg_ hat_)
            | (go_at_call 61; have hq_ := HD5.out; clear hq_; refine (synodalref9_in.calls 1001 Aw cw no x false _ (Kd.C_below (Kd.C_below (Kd.R_reads' HX.out).2.2 HB4.out) (drawn_below HD5.out)) (Kd.R_reads' HX.out).2.1 (by rw [HIN.out]; simp [hxn])).mono ?_; rintro e w6 ⟨rfl, hd6⟩; have HD6 := Aside0.mk hd6; have HG6 := Aside0.mk (blk_below HG5.out (drawn_below hd6)); have f2 : w6.cell? ⟨gw, 2, none⟩ = some (.slice Ay yes.length cy) := (blk_cell HG6.out 2).trans rfl; have f3 : w6.cell? ⟨gw, 3, none⟩ = some (.slice Aw no.length cw) := (blk_cell HG6.out 3).trans rfl; have HBX := Aside0.mk (below_then (below_then HB4.out HB4.out.size (drawn_below HD5.out)) (Nat.le_trans HB4.out.size (drawn_below HD5.out).size) (drawn_below hd6)); have HY6 := Aside0.mk (Kd.R_below HY.out HBX.out); have HX6 := Aside0.mk (Kd.R_below HX.out HBX.out); have HS6 := Aside0.mk (Nat.le_trans HS.out HBX.out.size); clear hd6)
            | (go_at_call 61; have hq_ := HB4.out; clear hq_; refine (synodalref9_in.calls 1001 Ay cy yes x false _ (Kd.C_below (Kd.R_reads' HY.out).2.2 HB4.out) (Kd.R_reads' HY.out).2.1 (by rw [HIY.out]; simp [hxy])).mono ?_; rintro e w5 ⟨rfl, hd5⟩; have HD5 := Aside0.mk hd5; have HG5 := Aside0.mk (blk_below HG4.out (drawn_below hd5)); have d3 : w5.cell? ⟨gw, 3, none⟩ = some (.slice Aw no.length cw) := (blk_cell HG5.out 3).trans rfl; clear hd5)
            | (go_at_call 60; refine (synodalref8_In.calls 1001 Ao co o An cn n x true _ HO.out.2.2 HO.out.2.1 HN.out.2.2 HN.out.2.1 (by rw [HI.out]; simp [hi])).mono ?_; rintro e w4 ⟨rfl, hb4⟩; have HB4 := Aside0.mk hb4; have HG4 := Aside0.mk (blk_below HG.out hb4); have d2 : w4.cell? ⟨gw, 2, none⟩ = some (.slice Ay yes.length cy) := (blk_cell HG4.out 2).trans rfl; clear hb4)
            | go_in)
          generalize hw8 : World.setCell w7 ⟨gw, 2, none⟩ _ = w8
          have hb8 : w8.heap[gw]? = some (.cells #[.slice Ao o.length co, .slice An n.length cn, .slice A7 (yes ++ [x]).length c7, .slice Aw no.length cw] 41 (0, 0)) := by rw [← hw8]; simpa using blk_set HB7.out 2 (.slice A7 (yes ++ [x]).length c7)
          have hfr : ∀ q, q ≠ gw → w8.heap[q]? = w7.heap[q]? := fun q hq => by rw [← hw8]; exact Below.heap_setCell w7 _ _ q hq
          have hsz : w8.heap.size = w7.heap.size := by rw [← hw8]; simp [World.setCell]
          have hk7 : Kept (fun k => k = gw ∨ Z ≤ k) w6 w7 := kept_grown HG7.out (fun q hq => .inr ((Kd.R_bound HY6.out).1 q hq).2.1)
          have hk8 : Kept (fun k => k = gw ∨ Z ≤ k) w7 w8 := by
            rw [← hw8]
            exact ⟨rfl, rfl, rfl, by simp [World.setCell], fun q _ hn => Below.heap_setCell w7 _ _ q (fun he => hn (.inl he))⟩
          have hkk : Kept (fun k => k = gw ∨ Z ≤ k) W w8 := ((Kept.of_below (F := fun _ => False) HBX.out).imp (fun _ h => False.elim h)).trans (fun _ h => .inl h) (hk7.trans (fun _ h => .inl h) hk8)
          have hfar := far_of HW.out
          have hzz := HZ.out
          have step : ∀ (ok : Nat → Prop) (v : Value) (m : List Int), Kd.R (Kd.int .i64) 3 w7 Z ok v m → Kd.R (Kd.int .i64) 3 w8 Z ok v m := fun ok v m h =>
            Kd.R_mono (Kd.R_step (Kd.R_bound h) (fun k hok _ => hfr k (fun e => by have := hok.2.1; omega))) (fun k h => h.1)
          have ro := step _ _ _ HO7.out
          have rx := step _ _ _ (Kd.R_grown2 HX6.out rfl HG7.out (fun q hq => HY6.out.1 q hq))
          have rx' : Kd.R (Kd.int .i64) 3 w8 Z (fun k => some k ≠ (Value.slice A7 (yes ++ [x]).length c7).ownBlock) (.slice Aw no.length cw) no := Kd.R_reok rfl rx (fun k hk he => ro.1 k he.symm hk.symm)
          go_wp2
          go_ret
          refine ⟨by rw [HOK.out]; rfl, hkk, ?_⟩
          unfold rYes rNo
          rw [HOK.out]
          obtain ⟨Ao', co', An', cn', Ay', cy', Aw', cw', hg', h1', h2', _, _, _, hB', _⟩ := HW.out
          rw [HG.out] at hg'
          injection hg' with hg'
          injection hg' with hg' _
          injection hg' with hg'
          injection hg' with e1 hg'
          injection hg' with e2 hg'
          injection e1 with e1 _ e1'
          injection e2 with e2 _ e2'
          subst e1; subst e1'; subst e2; subst e2'
          exact ⟨Ao, co, An, cn, A7, c7, Aw, cw, hb8, h1'.far hkk hfar, h2'.far hkk hfar, ro, rx', hzz, hB', by have := HS6.out; have := HG7.out.size; omega⟩
        case false =>
          go_wp2_with (first
            | ((with_reducible refine gate_builtin (b := .append) (xs := #[.tmp 45, .tmp 47]) rfl ?_); at_builtin; refine Kd.R_append (Kd.int .i64) (w0 := w6) Z rfl (.tmp 45) (.tmp 47) 24 3 (.int .i64 0) 8 rfl Try.underlying24 Reach.info3 rfl (by decide) (by omega) (.slice Aw no.length cw) no x [.int .i64 x] (fun k => some k ≠ (Value.slice Ay yes.length cy).ownBlock) (fun _ => False) rfl rfl rfl (fun _ hk => hk.elim) ?aF HX6.out (Below.refl _ _) ?aS ?aL ?_; (case aF => intro k hk he; have h1 := ((Kd.R_bound HY6.out).1 k he.symm).2.2.1; omega); (case aS => exact HS6.out); (case aL => have := HLN.out; omega); intro v7 w7 ho_ hb_ hg_ hat_; obtain ⟨A7, c7, rfl⟩ := Kd.R_slice ho_; have HO7 := Aside0.mk ho_; have HG7 := Aside0.mk hg_; have HB7 := Aside0.mk (blk_grown HG6.out hg_ (fun e => by have h1 := (Kd.R_bound HX6.out).1 gw e.symm; have h2 := HZ.out; omega)); have g3 := blk_cell HB7.out 3; have k3 := blk_frozen HB7.out 3; clear ho_ hb_ hg_ hat_)
            | (go_at_call 61; have hq_ := HD5.out; clear hq_; refine (synodalref9_in.calls 1001 Aw cw no x false _ (Kd.C_below (Kd.C_below (Kd.R_reads' HX.out).2.2 HB4.out) (drawn_below HD5.out)) (Kd.R_reads' HX.out).2.1 (by rw [HIN.out]; simp [hxn])).mono ?_; rintro e w6 ⟨rfl, hd6⟩; have HD6 := Aside0.mk hd6; have HG6 := Aside0.mk (blk_below HG5.out (drawn_below hd6)); have f2 : w6.cell? ⟨gw, 2, none⟩ = some (.slice Ay yes.length cy) := (blk_cell HG6.out 2).trans rfl; have f3 : w6.cell? ⟨gw, 3, none⟩ = some (.slice Aw no.length cw) := (blk_cell HG6.out 3).trans rfl; have HBX := Aside0.mk (below_then (below_then HB4.out HB4.out.size (drawn_below HD5.out)) (Nat.le_trans HB4.out.size (drawn_below HD5.out).size) (drawn_below hd6)); have HY6 := Aside0.mk (Kd.R_below HY.out HBX.out); have HX6 := Aside0.mk (Kd.R_below HX.out HBX.out); have HS6 := Aside0.mk (Nat.le_trans HS.out HBX.out.size); clear hd6)
            | (go_at_call 61; have hq_ := HB4.out; clear hq_; refine (synodalref9_in.calls 1001 Ay cy yes x false _ (Kd.C_below (Kd.R_reads' HY.out).2.2 HB4.out) (Kd.R_reads' HY.out).2.1 (by rw [HIY.out]; simp [hxy])).mono ?_; rintro e w5 ⟨rfl, hd5⟩; have HD5 := Aside0.mk hd5; have HG5 := Aside0.mk (blk_below HG4.out (drawn_below hd5)); have d3 : w5.cell? ⟨gw, 3, none⟩ = some (.slice Aw no.length cw) := (blk_cell HG5.out 3).trans rfl; clear hd5)
            | (go_at_call 60; refine (synodalref8_In.calls 1001 Ao co o An cn n x true _ HO.out.2.2 HO.out.2.1 HN.out.2.2 HN.out.2.1 (by rw [HI.out]; simp [hi])).mono ?_; rintro e w4 ⟨rfl, hb4⟩; have HB4 := Aside0.mk hb4; have HG4 := Aside0.mk (blk_below HG.out hb4); have d2 : w4.cell? ⟨gw, 2, none⟩ = some (.slice Ay yes.length cy) := (blk_cell HG4.out 2).trans rfl; clear hb4)
            | go_in)
          generalize hw8 : World.setCell w7 ⟨gw, 3, none⟩ _ = w8
          have hb8 : w8.heap[gw]? = some (.cells #[.slice Ao o.length co, .slice An n.length cn, .slice Ay yes.length cy, .slice A7 (no ++ [x]).length c7] 41 (0, 0)) := by rw [← hw8]; simpa using blk_set HB7.out 3 (.slice A7 (no ++ [x]).length c7)
          have hfr : ∀ q, q ≠ gw → w8.heap[q]? = w7.heap[q]? := fun q hq => by rw [← hw8]; exact Below.heap_setCell w7 _ _ q hq
          have hsz : w8.heap.size = w7.heap.size := by rw [← hw8]; simp [World.setCell]
          have hk7 : Kept (fun k => k = gw ∨ Z ≤ k) w6 w7 := kept_grown HG7.out (fun q hq => .inr ((Kd.R_bound HX6.out).1 q hq).2.1)
          have hk8 : Kept (fun k => k = gw ∨ Z ≤ k) w7 w8 := by
            rw [← hw8]
            exact ⟨rfl, rfl, rfl, by simp [World.setCell], fun q _ hn => Below.heap_setCell w7 _ _ q (fun he => hn (.inl he))⟩
          have hkk : Kept (fun k => k = gw ∨ Z ≤ k) W w8 := ((Kept.of_below (F := fun _ => False) HBX.out).imp (fun _ h => False.elim h)).trans (fun _ h => .inl h) (hk7.trans (fun _ h => .inl h) hk8)
          have hfar := far_of HW.out
          have hzz := HZ.out
          have step : ∀ (ok : Nat → Prop) (v : Value) (m : List Int), Kd.R (Kd.int .i64) 3 w7 Z ok v m → Kd.R (Kd.int .i64) 3 w8 Z ok v m := fun ok v m h =>
            Kd.R_mono (Kd.R_step (Kd.R_bound h) (fun k hok _ => hfr k (fun e => by have := hok.2.1; omega))) (fun k h => h.1)
          have ro := step _ _ _ HO7.out
          have rx := step _ _ _ (Kd.R_grown2 HY6.out rfl HG7.out (fun q hq => HX6.out.1 q hq))
          have rx' : Kd.R (Kd.int .i64) 3 w8 Z (fun k => some k ≠ (Value.slice A7 (no ++ [x]).length c7).ownBlock) (.slice Ay yes.length cy) yes := Kd.R_reok rfl rx (fun k hk he => ro.1 k he.symm hk.symm)
          go_wp2
          go_ret
          refine ⟨by rw [HOK.out]; rfl, hkk, ?_⟩
          unfold rYes rNo
          rw [HOK.out]
          obtain ⟨Ao', co', An', cn', Ay', cy', Aw', cw', hg', h1', h2', _, _, _, hB', _⟩ := HW.out
          rw [HG.out] at hg'
          injection hg' with hg'
          injection hg' with hg' _
          injection hg' with hg'
          injection hg' with e1 hg'
          injection hg' with e2 hg'
          injection e1 with e1 _ e1'
          injection e2 with e2 _ e2'
          subst e1; subst e1'; subst e2; subst e2'
          exact ⟨Ao, co, An, cn, Ay, cy, A7, c7, hb8, h1'.far hkk hfar, h2'.far hkk hfar, rx', ro, hzz, hB', by have := HS6.out; have := HG7.out.size; omega⟩
  · have hok : rOk o n yes no x = false := by unfold rOk; simp [hi]
    go_wp2_with (first
      | (go_at_call 60; refine (synodalref8_In.calls 1001 Ao co o An cn n x false _ HO.out.2.2 HO.out.2.1 HN.out.2.2 HN.out.2.1 (by rw [HI.out]; simp [hi])).mono ?_; rintro e w4 ⟨rfl, hb4⟩; have HB4 := Aside0.mk hb4; have HG4 := Aside0.mk (blk_below HG.out hb4); have d2 : w4.cell? ⟨gw, 2, none⟩ = some (.slice Ay yes.length cy) := (blk_cell HG4.out 2).trans rfl; clear hb4)
      | go_in)
    go_ret
    exact ⟨by rw [hok]; rfl, (Kept.of_below HB4.out).imp (F := fun _ => False) (fun _ h => False.elim h), by unfold rYes rNo; rw [hok]; exact HW.out.below HB4.out⟩
end Go.Proofs.Ytbomomaidglegaa.Votes
