/- hist.Hist.Put, by hand: entries in the place of those of other terms. -/
import Derived.Test.YtbomomaidglegaaHistAppend
import Derived.Deep.LoopGhost
import Derived.WalkSpells
namespace Go.Proofs.Ytbomomaidglegaa.Hist
open Go Go.RowKit Go.Proofs.Ytbomomaidglegaa.XHist Go.Proofs.YtbomomaidglegaaW.PrintWords Go.Proofs.YtbomomaidglegaaW.PrintLast Go.Proofs.YtbomomaidglegaaW.PrintMore
set_option linter.unusedVariables false
set_option linter.unusedSimpArgs false


theorem two_drawn (W : World) (a b : Nat) : ∃ n, (W.drewN a).drewN b = W.drewN n := (Drawn0.step (⟨⟨a, rfl⟩⟩ : Drawn0 W (W.drewN a)) b).out

theorem term_quiet {B : Nat} {W : World} {g : Nat} {F : Nat → Prop} {b : Int} {l : List S105} (h : IsH B W g F b l) (i m : Int) (hm : tm b l i = m) :
    Calls Try.prog 36 #[.pointer (some ⟨g, 0, none⟩), .int .i64 i] W fun e w' => e = .returned (.int .i64 m) ∧ ∃ n, w' = W.drewN n :=
  (term_calls h i).mono (by rintro e w' ⟨rfl, hd⟩; exact ⟨by rw [hm], hd.out⟩)

/-- Terms that may be behind one. -/
def rise : Int → List Int → Bool
  | _, [] => true
  | t, x :: r => if x < 1 ∨ x < t then false else rise x r

theorem rd_at_ (l : List Int) (i : Nat) (h : i < l.length) : rd l (i : Int) = l[i] := by simp [rd, List.getD, h]

theorem rise_l (l : List Int) (hl : l.length ≤ 1000000000000) (d : Nat) : ∀ (k i : Nat) (t : Int), i ≤ l.length → l.length - i = d → 2 * d < k → hist_rising.l0 k t l (l.length : Int) (i : Int) = some (rise t (l.drop i)) := by
  induction d with
  | zero =>
    intro k i t h1 h2 h3
    obtain ⟨k, rfl⟩ : ∃ m, k = m + 1 := ⟨k - 1, by omega⟩
    rw [List.drop_eq_nil_of_le (by omega)]
    simp only [hist_rising.l0]
    rw [if_neg (by omega)]
    rfl
  | succ d ih =>
    intro k i t h1 h2 h3
    obtain ⟨k, rfl⟩ : ∃ m, k = m + 2 := ⟨k - 2, by omega⟩
    have hlt : i < l.length := by omega
    have hn : wrap64 ((i : Int) + 1) = ((i + 1 : Nat) : Int) := by unfold wrap64; omega
    have q2 : l.length - (i + 1) = d := by omega
    have q3 : 2 * d < k := by omega
    rw [List.drop_eq_getElem_cons hlt]
    simp only [hist_rising.l0]
    rw [if_pos (by omega), if_pos (by omega), if_pos (by omega), rd_at_ l i hlt]
    by_cases c1 : l[i] < 1
    · rw [if_pos c1]
      simp [hist_rising.j1, rise, c1]
    · rw [if_neg c1]
      simp only [hist_rising.j1, rise]
      by_cases c2 : l[i] < t
      · rw [if_pos (by simpa using c2), if_pos (.inr c2)]
      · rw [if_neg (by simpa using c2), if_neg (fun h => h.elim c1 c2), hn]
        exact ih k (i + 1) l[i] hlt q2 q3

theorem rising_calls (t : Int) (A : Option Addr) (c : Nat) (ts : List Int) (w : World) (hC : Kd.C (Kd.int .i64) w A ts.length ts) (hc : ts.length ≤ c) (hl : ts.length < 1000000) :
    Calls Try.prog 64 #[.int .i64 t, .slice A ts.length c] w fun e w' => e = .returned (.bool (rise t ts)) ∧ Drawn0 w w' := by
  have h := rise_l ts (by omega) ts.length (2 * ts.length + 1) 0 t (by omega) (by omega) (by omega)
  rw [List.drop_zero] at h
  exact hist_rising.calls _ t A c ts _ w hC hc h

theorem rise_pos : ∀ (ts : List Int) (t : Int), rise t ts = true → ∀ x ∈ ts, 1 ≤ x := by
  intro ts
  induction ts with
  | nil => intro t _ x hx; cases hx
  | cons a r ih =>
    intro t h x hx
    simp only [rise] at h
    split at h
    · cases h
    · rename_i hn
      rcases List.mem_cons.1 hx with rfl | hx
      · omega
      · exact ih _ h x hx

/-- The log behind k entries that were put. -/
def putTo (b x : Int) (l : List S105) (ts : List Int) (es : List S77) : Nat → List S105
  | 0 => l
  | k + 1 => if tm b (putTo b x l ts es k) (x + 1 + (k : Int)) = rd ts (k : Int) then putTo b x l ts es k else (putTo b x l ts es k).take (x + (k : Int) - b).toNat ++ [(⟨rd ts (k : Int), rd_T77 es (k : Int)⟩ : S105)]

theorem putTo_bounds (b x : Int) (l : List S105) (ts : List Int) (es : List S77) (h1 : ∀ v ∈ ts, 1 ≤ v) (hb : b ≤ x) (hx : x ≤ b + (l.length : Int)) (hl : b + (l.length : Int) ≤ 64) (hn : x + (ts.length : Int) ≤ 64) :
    ∀ k : Nat, k ≤ ts.length → x + (k : Int) ≤ b + ((putTo b x l ts es k).length : Int) ∧ b + ((putTo b x l ts es k).length : Int) ≤ 64 := by
  intro k
  induction k with
  | zero => intro _; simp only [putTo]; exact ⟨by simpa using hx, hl⟩
  | succ k ih =>
    intro hk
    have ⟨i1, i2⟩ := ih (by omega)
    have hv : 1 ≤ rd ts (k : Int) := by rw [rd_at_ ts k (by omega)]; exact h1 _ (List.getElem_mem _)
    simp only [putTo]
    generalize putTo b x l ts es k = c at i1 i2 ⊢
    split
    · rename_i he
      refine ⟨?_, i2⟩
      unfold tm at he
      split at he
      · rename_i hh; omega
      · omega
    · rw [List.length_append, List.length_take, List.length_singleton]
      omega

/-- What Put answers, and the log behind it. -/
def putF (b : Int) (l : List S105) (x t : Int) (ts : List Int) (es : List S77) : Int × Int × List S105 :=
  if ts.length ≠ es.length ∨ rise t ts = false ∨ x < b then (0, 1, l)
  else if b + (l.length : Int) < x ∨ b < x ∧ tm b l x ≠ t then (0, 2, l)
  else if (es.length : Int) > 64 - x then (0, 14, l)
  else (x + (es.length : Int), 0, putTo b x l ts es es.length)

/-- An append onto a full slice of a row's first elements: a new row. -/
theorem R_full {P : Program} {α : Type} (d : Kd α) {W : World} (base : Nat) (t ty e : TypeId) (z : Value) (bytes : Nat)
    (ht : P.underlying t = some (.slice e)) (hinfo : (P.info? e).map (fun i => (i.zero, i.size, i.bytes)) = some (some z, d.sz, bytes)) (hz : z.cells.size = d.sz) (hs0 : 0 < d.sz) (hb0 : 0 < bytes)
    (A : Option Addr) (c N n : Nat) (xs : List α) (p : α) (cs : List Value) (ok okp : Nat → Prop) (hn : n ≤ xs.length) (hp : d.M W base okp p cs) (hokp : ∀ k, okp k → ok k) (hfresh : ∀ k, W.heap.size ≤ k → ok k)
    (HO : d.R e W base ok (.slice A N c) xs) (hbase : base ≤ W.heap.size) (hl : (n + 1) * bytes ≤ 140737488355328) :
    ∃ v1 w1, (Builtin.append_ #[t, t] ty #[.slice A n n, .slice (some ⟨W.heap.size, 0, none⟩) 1 1]).run P (W.alloc (.cells cs.toArray e)) = .ok v1 w1 ∧ d.R e w1 base ok v1 (xs.take n ++ [p]) ∧ W.grownBy w1 none := by
  obtain ⟨i0, hi, hzz⟩ := Option.map_eq_some_iff.1 hinfo
  simp only [Prod.mk.injEq] at hzz
  obtain ⟨hz0, hz1, hz2⟩ := hzz
  have hlen : n + 1 ≤ 140737488355328 := Nat.le_trans (Nat.le_mul_of_pos_right _ hb0) hl
  have hcl := d.K_len (d.K_of_M hp)
  obtain ⟨h0, inner, hown, hr⟩ := Kd.R_take HO hn
  have htl : (xs.take n).length = n := by rw [List.length_take]; omega
  rw [htl] at hown
  have hnews : ∀ j u, cs[j]? = some u → (W.alloc (.cells cs.toArray e)).cell? ((⟨W.heap.size, 0, none⟩ : Addr).add j) = some u := by simpa using World.news_of_block (cs := cs.toArray) (t := e) (fr := (0, 0)) (heap_alloc_new W (.cells cs.toArray e))
  have hg0 := World.grownBy_alloc W (.cells cs.toArray e) none
  have hrun : ∃ v1 w1, (Builtin.append_ #[t, t] ty #[.slice A n n, .slice (some ⟨W.heap.size, 0, none⟩) 1 1]).run P (W.alloc (.cells cs.toArray e)) = .ok v1 w1 ∧ w1.ownsRow W.heap.size e d.sz v1 (n + 1) (inner ++ cs) ∧ (W.alloc (.cells cs.toArray e)).grownBy w1 none := by
    rcases A with _ | ad
    · have hn0 : n = 0 := by
        rcases hown.2 with ⟨_, h⟩ | ⟨_, _, _, he, _⟩
        · exact h
        · cases he
      subst hn0
      obtain rfl : inner = [] := List.eq_nil_of_length_eq_zero (by simpa using hown.1)
      obtain ⟨v', w', hrun, r1, r2, _⟩ := run_append_own (P := P) (W.alloc (.cells cs.toArray e)) (W.alloc (.cells cs.toArray e)).heap.size t ty e i0 z d.sz bytes ht hi hz0 hz1 hz2 hz hs0 (.slice none 0 0) 0 [] (World.ownsRow_nil _ _ e d.sz) ⟨W.heap.size, 0, none⟩ 1 1 cs (by rw [hcl, Nat.one_mul]) hnews (d.K_one (d.K_of_M hp)) (by simp only [maxLen]; omega) hl (Nat.le_refl _)
      exact ⟨v', w', hrun, own_weaken r1 (by simp), r2⟩
    · have hcell : ∀ j u, inner[j]? = some u → (W.alloc (.cells cs.toArray e)).cell? (ad.add j) = some u := by
        intro j u hj
        rcases Nat.eq_zero_or_pos n with hn0 | hn0
        · obtain rfl : inner = [] := List.eq_nil_of_length_eq_zero (by rw [hown.1, hn0, Nat.zero_mul])
          simp at hj
        · obtain ⟨ad', he, hc⟩ := q_cells (q_of_own hown) hn0
          cases he
          exact pw_cell_below (below_alloc (Below.refl _ _) _) (hc j u hj)
      obtain ⟨v', w', hrun, r1, r2⟩ := run_append_arg_grows (P := P) (W.alloc (.cells cs.toArray e)) t ty e i0 z d.sz bytes ht hi hz0 hz1 hz2 hz hs0 ad n n inner hown.1 hcell ⟨W.heap.size, 0, none⟩ 1 1 cs (by rw [hcl, Nat.one_mul]) hnews (by omega) (by simp only [maxLen]; omega) hl
      exact ⟨v', w', hrun, own_weaken r1 (by simp), r2⟩
  obtain ⟨v1, w1, hrun, r1, r2⟩ := hrun
  have hg : W.grownBy w1 none := World.grownBy.trans hg0 r2
  refine ⟨v1, w1, hrun, ⟨fun k hk => hfresh k (own_base r1 k hk), inner ++ cs, by rw [List.length_append, htl, List.length_singleton]; exact own_weaken r1 hbase, ?_⟩, hg⟩
  have step : ∀ {q : α} {c : List Value} {o : Nat → Prop}, d.M W base o q c → (∀ k, o k → ok k) → d.M w1 base (fun k => ok k ∧ some k ≠ v1.ownBlock) q c := by
    intro q c o hq ho
    have h1 := d.M_move (w1 := w1) (fun k hk => hg.block k hk.2.2.1 (by simp)) (d.M_bound hq)
    exact d.M_mono (fun k hk => ⟨ho k hk.1, fun he => by have := own_base r1 k he.symm; have := hk.2.2.1; omega⟩) h1
  exact (hr.imp_ (fun _ _ hq => step hq (fun _ hk => hk.1))).snoc (step hp hokp) hcl

theorem R_full_step {P : Program} {ops : Array Oper} {o : Oper} {a : Act} {Q : Exit → Act → World → Prop} {Kc : Act → World → Prop} {α : Type} (d : Kd α) {W : World} (base : Nat) (hw : Region.wanted o (yielded ops a.tmps) = true) (s x : Operand) (t e : TypeId) (z : Value) (bytes : Nat)
    (ho : o.op = .call { callee := .builtin .append, args := #[s, x], argTypes := #[t, t] })
    (ht : P.underlying t = some (.slice e)) (hinfo : (P.info? e).map (fun i => (i.zero, i.size, i.bytes)) = some (some z, d.sz, bytes)) (hz : z.cells.size = d.sz) (hs0 : 0 < d.sz) (hb0 : 0 < bytes)
    (A : Option Addr) (c N n : Nat) (xs : List α) (p : α) (cs : List Value) (ok okp : Nat → Prop) (hs : a.eval s = .slice A n n) (hx : a.eval x = .slice (some ⟨W.heap.size, 0, none⟩) 1 1) (hn : n ≤ xs.length) (hp : d.M W base okp p cs) (hokp : ∀ k, okp k → ok k) (hfresh : ∀ k, W.heap.size ≤ k → ok k)
    (HO : d.R e W base ok (.slice A N c) xs) (hbase : base ≤ W.heap.size) (hl : (n + 1) * bytes ≤ 140737488355328)
    (h : ∀ v1 w1, d.R e w1 base ok v1 (xs.take n ++ [p]) → W.grownBy w1 none → Kc (a.put o.dst v1) w1) :
    if Region.wanted o (yielded ops a.tmps) = true then Oper.wp P o a (W.alloc (.cells cs.toArray e)) Kc Q else Kc (a.put o.dst undef) (W.alloc (.cells cs.toArray e)) := by
  obtain ⟨v1, w1, hr, h1, h2⟩ := R_full (P := P) d base t o.type e z bytes ht hinfo hz hs0 hb0 A c N n xs p cs ok okp hn hp hokp hfresh HO hbase hl
  rw [if_pos hw]
  unfold Oper.wp execOp
  simp only [ho, resolve, invoke, builtin, Sem.run_bind, Sem.run_pure, Result.andThen_ok, List.map_toArray, List.map_cons, List.map_nil, hs, hx, hr]
  exact h v1 w1 h1 h2

theorem cut_full {P : Program} (t e : TypeId) {z : Option Value} {s y : Nat} (ht : P.underlying t = some (.slice e)) (hinfo : (P.info? e).map (fun i => (i.zero, i.size, i.bytes)) = some (z, s, y)) (A : Option Addr) (n c j : Nat) (hm : j ≤ n) (hc : n ≤ c) :
    ∀ W : World, (Instr.slice t (.slice A n c) none (some (.int .i64 (j : Int))) (some (.int .i64 (j : Int)))).run P W = .ok (.slice A j j) W := by
  intro W
  obtain ⟨i, hi, _⟩ := Option.map_eq_some_iff.1 hinfo
  have hel : P.elem t = e := by simp [Program.elem, ht]
  have hu : P.underlying t = some (.slice (P.elem t)) := by rw [hel]; exact ht
  have ha : (A.map fun x => x.add 0) = A := by cases A <;> simp [Addr.add]
  rw [run_slice_hm W t A n c hu .i64 .i64 (j : Int) (j : Int) (by omega) (Int.le_refl _) (by omega), hel]
  simp [sizeOf, typeInfo, hi, sliced, Result.andThen, ha]

set_option maxHeartbeats 16000000 in
set_option maxRecDepth 100000 in
theorem put_calls {B : Nat} {W : World} {g : Nat} {F : Nat → Prop} {b : Int} {l : List S105} (h : IsH B W g F b l) (hBW : B ≤ W.heap.size) (x t : Int) (At : Option Addr) (ct : Nat) (ts : List Int) (A : Option Addr) (c : Nat) (es : List S77)
    (hT : ∀ W', Kept F W W' → Kd.C (Kd.int .i64) W' At ts.length ts) (hct : ts.length ≤ ct) (hlt : ts.length < 1000000)
    (hE : ∀ W', Kept F W W' → Kd.C k77 W' A es.length es) (hc : es.length ≤ c) (hl : es.length < 1000000) (hm : ∀ x ∈ es, x.f4.length < 17592186044416) :
    Calls Try.prog 32 #[.pointer (some ⟨g, 0, none⟩), .int .i64 x, .int .i64 t, .slice At ts.length ct, .slice A es.length c] W fun e w' => ∃ (F' : Nat → Prop), e = .returned (.tuple #[.int .i64 (putF b l x t ts es).1, .int .i64 (putF b l x t ts es).2.1]) ∧
      IsH B w' g F' b (putF b l x t ts es).2.2 ∧ (∀ q, F' q → F q ∨ W.heap.size ≤ q) ∧ Kept F W w' := by
  obtain ⟨m, hmm⟩ : ∃ m, tm b l x = m := ⟨_, rfl⟩
  obtain ⟨ri, hri⟩ : ∃ ri, rise t ts = ri := ⟨_, rfl⟩
  have hbb := h.bounds
  have hTR := hT W (Kept.refl _ _)
  obtain ⟨A0, c0, hbk, _, _, _, _⟩ := h.reads
  have hcg : W.cell? ⟨g, 0, none⟩ = some (.int .i64 b) := (blk_cell hbk 0).trans rfl
  have HH := Aside0.mk h
  have HE := Aside0.mk hE
  have HT := Aside0.mk hT
  have HTR := Aside0.mk hTR
  have HCT := Aside0.mk hct
  have HLT := Aside0.mk hlt
  have HMM := Aside0.mk hmm
  have HM := Aside0.mk hm
  have HBW := Aside0.mk hBW
  clear hE hT hm h hBW hbk
  have hu105 := Try.underlying105
  have hu77 := Try.underlying77
  by_cases c1 : ts.length = es.length
  case neg =>
    have d1 : ((ts.length : Int) != (es.length : Int)) = true := bne_iff_ne.mpr (by omega)
    have d1' : ((ts.length : Int) == (es.length : Int)) = false := beq_eq_false_iff_ne.mpr (by omega)
    rw [show putF b l x t ts es = (0, 1, l) by unfold putF; rw [if_pos (.inl c1)]]
    clear c1 HE HT HM hmm hTR
    have HRI : Aside0 (rise t ts = ri) := Aside0.mk hri
    go_enter Try.func32, Try.ntmps32
    go_wp2_with (first | (go_at_call 35; refine (last_calls (by repeat (first | exact HH.out | apply IsH.drew | apply IsH.drewN))).mono ?_; rintro e w' ⟨rfl, ⟨n, rfl⟩⟩) | (go_at_call 36; refine (term_calls (by repeat (first | exact HH.out | apply IsH.drew | apply IsH.drewN)) _).mono ?_; rintro e w' ⟨rfl, ⟨n, rfl⟩⟩; rw [HMM.out]) | (go_at_call 64; refine (rising_calls t At ct ts _ (by repeat (first | exact HTR.out | apply Kd.C_drew | apply Kd.C_drewN)) HCT.out HLT.out).mono ?_; rintro e w' ⟨rfl, ⟨n, rfl⟩⟩; rw [HRI.out]))
    go_ret2
    exact ⟨F, rfl, HH.out.drawn (by repeat (first | exact Drawn0.refl _ | apply Drawn0.step)), fun q hq => .inl hq, drawn_kept (by repeat (first | exact Drawn0.refl _ | apply Drawn0.step))⟩
  have d1 : ((ts.length : Int) != (es.length : Int)) = false := bne_eq_false_iff_eq.mpr (by omega)
  have d1' : ((ts.length : Int) == (es.length : Int)) = true := beq_iff_eq.mpr (by omega)
  have HLE := Aside0.mk c1
  have c1' : ¬ ts.length ≠ es.length := fun h => h c1
  cases ri with
  | false =>
    rw [show putF b l x t ts es = (0, 1, l) by unfold putF; rw [if_pos (.inr (.inl hri))]]
    clear c1 c1' HE HT HM hmm hTR
    have HRI : Aside0 (rise t ts = false) := Aside0.mk hri
    go_enter Try.func32, Try.ntmps32
    go_wp2_with (first | (go_at_call 35; refine (last_calls (by repeat (first | exact HH.out | apply IsH.drew | apply IsH.drewN))).mono ?_; rintro e w' ⟨rfl, ⟨n, rfl⟩⟩) | (go_at_call 36; refine (term_calls (by repeat (first | exact HH.out | apply IsH.drew | apply IsH.drewN)) _).mono ?_; rintro e w' ⟨rfl, ⟨n, rfl⟩⟩; rw [HMM.out]) | (go_at_call 64; refine (rising_calls t At ct ts _ (by repeat (first | exact HTR.out | apply Kd.C_drew | apply Kd.C_drewN)) HCT.out HLT.out).mono ?_; rintro e w' ⟨rfl, ⟨n, rfl⟩⟩; rw [HRI.out]))
    go_ret2
    exact ⟨F, rfl, HH.out.drawn (by repeat (first | exact Drawn0.refl _ | apply Drawn0.step)), fun q hq => .inl hq, drawn_kept (by repeat (first | exact Drawn0.refl _ | apply Drawn0.step))⟩
  | true =>
  have HRI := Aside0.mk hri
  have c2' : ¬ rise t ts = false := by rw [hri]; decide
  by_cases c3 : x < b
  · have d3 : decide (x < b) = true := decide_eq_true c3
    rw [show putF b l x t ts es = (0, 1, l) by unfold putF; rw [if_pos (.inr (.inr c3))]]
    clear c1 c1' c2' c3 HE HT HM hmm hri hTR
    go_enter Try.func32, Try.ntmps32
    go_wp2_with (first | (go_at_call 35; refine (last_calls (by repeat (first | exact HH.out | apply IsH.drew | apply IsH.drewN))).mono ?_; rintro e w' ⟨rfl, ⟨n, rfl⟩⟩) | (go_at_call 36; refine (term_calls (by repeat (first | exact HH.out | apply IsH.drew | apply IsH.drewN)) _).mono ?_; rintro e w' ⟨rfl, ⟨n, rfl⟩⟩; rw [HMM.out]) | (go_at_call 64; refine (rising_calls t At ct ts _ (by repeat (first | exact HTR.out | apply Kd.C_drew | apply Kd.C_drewN)) HCT.out HLT.out).mono ?_; rintro e w' ⟨rfl, ⟨n, rfl⟩⟩; rw [HRI.out]))
    go_ret2
    exact ⟨F, rfl, HH.out.drawn (by repeat (first | exact Drawn0.refl _ | apply Drawn0.step)), fun q hq => .inl hq, drawn_kept (by repeat (first | exact Drawn0.refl _ | apply Drawn0.step))⟩
  have d3 : decide (x < b) = false := decide_eq_false c3
  have e1 : ¬ (ts.length ≠ es.length ∨ rise t ts = false ∨ x < b) := fun h => h.elim c1' (fun h => h.elim c2' c3)
  clear c1' c2'
  by_cases c4 : b + (l.length : Int) < x
  · have d4 : decide (b + (l.length : Int) < x) = true := decide_eq_true c4
    rw [show putF b l x t ts es = (0, 2, l) by unfold putF; rw [if_neg e1, if_pos (.inl c4)]]
    clear c1 c3 c4 e1 HE HT HM hmm hri hTR
    go_enter Try.func32, Try.ntmps32
    go_wp2_with (first | (go_at_call 35; refine (last_calls (by repeat (first | exact HH.out | apply IsH.drew | apply IsH.drewN))).mono ?_; rintro e w' ⟨rfl, ⟨n, rfl⟩⟩) | (go_at_call 36; refine (term_calls (by repeat (first | exact HH.out | apply IsH.drew | apply IsH.drewN)) _).mono ?_; rintro e w' ⟨rfl, ⟨n, rfl⟩⟩; rw [HMM.out]) | (go_at_call 64; refine (rising_calls t At ct ts _ (by repeat (first | exact HTR.out | apply Kd.C_drew | apply Kd.C_drewN)) HCT.out HLT.out).mono ?_; rintro e w' ⟨rfl, ⟨n, rfl⟩⟩; rw [HRI.out]))
    go_ret2
    exact ⟨F, rfl, HH.out.drawn (by repeat (first | exact Drawn0.refl _ | apply Drawn0.step)), fun q hq => .inl hq, drawn_kept (by repeat (first | exact Drawn0.refl _ | apply Drawn0.step))⟩
  have d4 : decide (b + (l.length : Int) < x) = false := decide_eq_false c4
  by_cases c5 : b < x ∧ m ≠ t
  · have d5 : decide (b < x) = true := decide_eq_true c5.1
    have d6 : (m != t) = true := bne_iff_ne.mpr c5.2
    have d6' : (m == t) = false := beq_eq_false_iff_ne.mpr c5.2
    rw [show putF b l x t ts es = (0, 2, l) by unfold putF; rw [if_neg e1, hmm, if_pos (.inr c5)]]
    clear c1 c3 c4 c5 e1 HE HT HM hmm hri hTR
    go_enter Try.func32, Try.ntmps32
    go_wp2_with (first | (go_at_call 35; refine (last_calls (by repeat (first | exact HH.out | apply IsH.drew | apply IsH.drewN))).mono ?_; rintro e w' ⟨rfl, ⟨n, rfl⟩⟩) | (go_at_call 36; refine (term_calls (by repeat (first | exact HH.out | apply IsH.drew | apply IsH.drewN)) _).mono ?_; rintro e w' ⟨rfl, ⟨n, rfl⟩⟩; rw [HMM.out]) | (go_at_call 64; refine (rising_calls t At ct ts _ (by repeat (first | exact HTR.out | apply Kd.C_drew | apply Kd.C_drewN)) HCT.out HLT.out).mono ?_; rintro e w' ⟨rfl, ⟨n, rfl⟩⟩; rw [HRI.out]))
    go_ret2
    exact ⟨F, rfl, HH.out.drawn (by repeat (first | exact Drawn0.refl _ | apply Drawn0.step)), fun q hq => .inl hq, drawn_kept (by repeat (first | exact Drawn0.refl _ | apply Drawn0.step))⟩
  have e2 : ¬ (b + (l.length : Int) < x ∨ b < x ∧ tm b l x ≠ t) := fun h => h.elim c4 (fun h => c5 (by rw [hmm] at h; exact h))
  have d56 : decide (b < x) = false ∨ (decide (b < x) = true ∧ (m != t) = false ∧ (m == t) = true) := by
    by_cases h1 : b < x
    · have h2 : m = t := Classical.not_not.1 fun h => c5 ⟨h1, h⟩
      exact .inr ⟨decide_eq_true h1, bne_eq_false_iff_eq.mpr h2, beq_iff_eq.mpr h2⟩
    · exact .inl (decide_eq_false h1)
  have hxb : b ≤ x := by omega
  have hxl : x ≤ b + (l.length : Int) := by omega
  clear c1 c3 c4 c5
  rcases d56 with d5 | ⟨d5, d6, d6'⟩
  all_goals
    by_cases c6 : (es.length : Int) > 64 - x
    · have d7 : decide (64 - x < (es.length : Int)) = true := decide_eq_true c6
      rw [show putF b l x t ts es = (0, 14, l) by unfold putF; rw [if_neg e1, if_neg e2, if_pos c6]]
      clear e1 e2 c6 HE HT HM hmm hri hTR
      go_enter Try.func32, Try.ntmps32
      go_wp2_with (first | (go_at_call 35; refine (last_calls (by repeat (first | exact HH.out | apply IsH.drew | apply IsH.drewN))).mono ?_; rintro e w' ⟨rfl, ⟨n, rfl⟩⟩) | (go_at_call 36; refine (term_calls (by repeat (first | exact HH.out | apply IsH.drew | apply IsH.drewN)) _).mono ?_; rintro e w' ⟨rfl, ⟨n, rfl⟩⟩; rw [HMM.out]) | (go_at_call 64; refine (rising_calls t At ct ts _ (by repeat (first | exact HTR.out | apply Kd.C_drew | apply Kd.C_drewN)) HCT.out HLT.out).mono ?_; rintro e w' ⟨rfl, ⟨n, rfl⟩⟩; rw [HRI.out]))
      go_ret2
      exact ⟨F, rfl, HH.out.drawn (by repeat (first | exact Drawn0.refl _ | apply Drawn0.step)), fun q hq => .inl hq, drawn_kept (by repeat (first | exact Drawn0.refl _ | apply Drawn0.step))⟩
    have d7 : decide (64 - x < (es.length : Int)) = false := decide_eq_false c6
    rw [show putF b l x t ts es = (x + (es.length : Int), 0, putTo b x l ts es es.length) by unfold putF; rw [if_neg e1, if_neg e2, if_neg c6]]
    have HPB := Aside0.mk (putTo_bounds b x l ts es (rise_pos ts t hri) hxb hxl hbb.2 (by omega))
    have HC6 := Aside0.mk (show x + (es.length : Int) ≤ 64 by omega)
    have hb00 := hbb.1
    have HBB := Aside0.mk hbb
    clear e1 e2 c6 hmm hri hTR hbb
    go_enter Try.func32, Try.ntmps32
    go_wp2_with (first | (go_at_call 35; refine (last_calls (by repeat (first | exact HH.out | apply IsH.drew | apply IsH.drewN))).mono ?_; rintro e w' ⟨rfl, ⟨n, rfl⟩⟩) | (go_at_call 36; refine (term_calls (by repeat (first | exact HH.out | apply IsH.drew | apply IsH.drewN)) _).mono ?_; rintro e w' ⟨rfl, ⟨n, rfl⟩⟩; rw [HMM.out]) | (go_at_call 64; refine (rising_calls t At ct ts _ (by repeat (first | exact HTR.out | apply Kd.C_drew | apply Kd.C_drewN)) HCT.out HLT.out).mono ?_; rintro e w' ⟨rfl, ⟨n, rfl⟩⟩; rw [HRI.out]))
    clear d1 d1' d3 d4 d5 d7 hcg
    go_loopw [63] (fun v63 wr => ∃ (k : Nat) (Fk : Nat → Prop), k ≤ es.length ∧ v63 = .int .i64 k ∧ Aside0 (IsH B wr g Fk b (putTo b x l ts es k)) ∧ Aside0 (∀ q, Fk q → F q ∨ W.heap.size ≤ q) ∧ Aside0 (Kept F W wr))
      (fun v63 _ => es.length - (intOf v63).toNat)
    case atStart =>
      refine ⟨0, F, Nat.zero_le _, rfl, ⟨?_⟩, ⟨fun q hq => .inl hq⟩, ⟨drawn_kept (by repeat (first | exact Drawn0.refl _ | apply Drawn0.step))⟩⟩
      exact HH.out.drawn (by repeat (first | exact Drawn0.refl _ | apply Drawn0.step))
    case round =>
      obtain ⟨k, Fk, hk, rfl, HI, HF, HKR⟩ := hrel
      by_cases hlt : k < es.length
      · have p1 : 0 ≤ (k : Int) := by omega
        have q1 : (k : Int) < (es.length : Int) := by omega
        have q1t : (k : Int) < (ts.length : Int) := by have := HLE.out; omega
        obtain ⟨ad, A4, c4, rfl, hx0, hx1, hx2, hx3, hx4, hx5, hxc, hxC⟩ := at_T77 (HE.out wr HKR.out) (k : Int) p1 q1
        obtain ⟨adt, rfl, ht0⟩ := Kd.at_int (HT.out wr HKR.out) (k : Int) p1 q1t
        rw [Int.toNat_natCast] at hx0 hx1 hx2 hx3 hx4 hx5 ht0
        obtain ⟨e, hek⟩ : ∃ e, rd_T77 es (k : Int) = e := ⟨_, rfl⟩
        obtain ⟨tk, htk⟩ : ∃ tk, rd ts (k : Int) = tk := ⟨_, rfl⟩
        rw [hek] at hx0 hx1 hx2 hx3 hx4 hx5 hxc hxC
        rw [htk] at ht0
        have HXM := Aside0.mk (HM.out e (by rw [← hek, rd77_at es k hlt]; exact List.getElem_mem hlt))
        have hpb := HPB.out k (by have := HLE.out; omega)
        obtain ⟨lk, hlk⟩ : ∃ lk, putTo b x l ts es k = lk := ⟨_, rfl⟩
        have hln : putTo b x l ts es (k + 1) = if tm b lk (x + 1 + (k : Int)) = tk then lk else lk.take (x + (k : Int) - b).toNat ++ [(⟨tk, e⟩ : S105)] := by
          simp only [putTo]
          rw [hlk, htk, hek]
        rw [hlk] at HI hpb
        have HLN := Aside0.mk hln
        have HPK := Aside0.mk hpb
        obtain ⟨mk, hmk⟩ : ∃ mk, tm b lk (x + 1 + (k : Int)) = mk := ⟨_, rfl⟩
        have HMK := Aside0.mk hmk
        have HXCr := Aside0.mk hxC
        have HXC := Aside0.mk hxc
        have hxk0 : 0 ≤ x := by omega
        have hxk : x + (k : Int) < 64 := by have := HC6.out; omega
        replace p1 := eq_true p1
        replace q1 := eq_true q1
        replace q1t := eq_true q1t
        clear hln hlk hek htk hxC hxc hpb hmk
        go_wp2
        obtain ⟨wa, hwa⟩ : ∃ wa, wr.alloc (.cells #[.int .i64 e.f0, .int .i64 e.f1, .int .i64 e.f2, .string e.f3, .slice A4 e.f4.length c4, .int .i64 e.f5] 77) = wa := ⟨_, rfl⟩
        have hba : Below wr.heap.size wr wa := by rw [← hwa]; exact below_alloc (Below.refl _ _) _
        have hbe : wa.heap[wr.heap.size]? = some (.cells #[.int .i64 e.f0, .int .i64 e.f1, .int .i64 e.f2, .string e.f3, .slice A4 e.f4.length c4, .int .i64 e.f5] 77 (0, 0)) := by rw [← hwa]; exact heap_alloc_new _ _
        rw [hwa]
        obtain ⟨gb, hgb⟩ : ∃ gb, wr.heap.size = gb := ⟨_, rfl⟩
        rw [hgb] at hbe ⊢
        have BE := Aside0.mk (show wa.drew.heap[gb]? = some (.cells #[.int .i64 e.f0, .int .i64 e.f1, .int .i64 e.f2, .string e.f3, .slice A4 e.f4.length c4, .int .i64 e.f5] 77 (0, 0)) from hbe)
        have HBD := Aside0.mk (show Below wr.heap.size wr wa.drew from below_drew hba)
        have HTC := Aside0.mk (pw_cell_below HBD.out ht0)
        have HID := Aside0.mk (HI.out.below HBD.out)
        have HX := Aside0.mk (Kd.C_below HXCr.out HBD.out)
        have HS0 := Aside0.mk (show gb ≤ wa.drew.heap.size by rw [← hgb]; exact HBD.out.size)
        have HBG := Aside0.mk (show B ≤ gb by rw [← hgb]; exact Nat.le_trans HBW.out HKR.out.size)
        clear hba hbe hx0 hx1 hx2 hx3 hx4 hx5 hwa HXCr ht0
        refine start_ (n := 8) (S := fun w' => w'.cell? (adt.add k) = some (Value.int .i64 tk)) (ds := []) #[false, false, false, false, false, false, false, false] (by kernel_rfl) rfl rfl (HTC.out) (fun hHeld => ?_)
        generalize wa.drew = wd at BE HBD HTC HID HX HS0 hHeld ⊢
        refine pure_ (i := 0) (N := some 72) (v := ?_) (a' := ?_) #[true, false, false, false, false, false, false, false] rfl rfl (by kernel_rfl) (fun _ _ _ h => h) (Or.inl ⟨by rfl, ?_⟩) ?_ ?_
        rotate_left
        · intro w'
          go_simp
          with_reducible rfl
        rotate_left
        · simp only [Act.put, List.setIfInBounds_toArray, List.set_cons_zero, List.set_cons_succ, i64_w, i32_w]
          rfl
        refine pure_ (i := 1) (N := some 73) (v := ?_) (a' := ?_) #[true, true, false, false, false, false, false, false] rfl rfl (by kernel_rfl) (fun _ _ _ h => h) (Or.inl ⟨by rfl, ?_⟩) ?_ ?_
        rotate_left
        · intro w'
          go_simp
          with_reducible rfl
        rotate_left
        · simp only [Act.put, List.setIfInBounds_toArray, List.set_cons_zero, List.set_cons_succ, i64_w, i32_w]
          rfl
        refine pure_ (i := 3) (N := some 75) (v := ?_) (a' := ?_) #[true, true, false, true, false, false, false, false] rfl rfl (by kernel_rfl) (fun _ _ _ h => h) (Or.inl ⟨by rfl, ?_⟩) ?_ ?_
        rotate_left
        · intro w'
          go_simp
          with_reducible rfl
        rotate_left
        · simp only [Act.put, List.setIfInBounds_toArray, List.set_cons_zero, List.set_cons_succ, i64_w, i32_w]
          rfl
        refine pure_ (i := 4) (N := some 76) (v := ?_) (a' := ?_) #[true, true, false, true, true, false, false, false] rfl rfl (by kernel_rfl) (fun _ _ _ h => h) (Or.inl ⟨by rfl, ?_⟩) ?_ ?_
        rotate_left
        · intro w'
          go_simp
          with_reducible rfl
        rotate_left
        · simp only [Act.put, List.setIfInBounds_toArray, List.set_cons_zero, List.set_cons_succ, i64_w, i32_w]
          rfl
        refine pure_ (i := 5) (N := some 77) (v := ?_) (a' := ?_) #[true, true, false, true, true, true, false, false] rfl rfl (by kernel_rfl) (fun _ _ _ h => h) (Or.inl ⟨by rfl, ?_⟩) ?_ ?_
        rotate_left
        · intro w'
          go_simp
          with_reducible rfl
        rotate_left
        · simp only [Act.put, List.setIfInBounds_toArray, List.set_cons_zero, List.set_cons_succ, i64_w, i32_w]
          rfl
        refine take_ (i := 6) (N := some 78) (v := ?_) (a' := ?_) #[true, true, false, true, true, true, true, false] rfl rfl (by kernel_rfl) (fun _ _ _ h => h) (Or.inl ⟨by rfl, ?_⟩) hHeld ?_ ?_
        rotate_left
        · intro w' s0
          go_simp
          with_reducible rfl
        rotate_left
        · simp only [Act.put, List.setIfInBounds_toArray, List.set_cons_zero, List.set_cons_succ, i64_w, i32_w]
          rfl
        refine one_ (i := 2) (N := some 74) #[true, true, true, true, true, true, true, false] rfl rfl (by kernel_rfl) (by decide) (fun K hK => ?_)
        refine goes_ Try.func36 (by kernel_rfl) rfl #[.pointer (some ⟨g, 0, none⟩), .int .i64 (x + 1 + (k : Int))] (by rfl) rfl rfl (by simp only [List.map_toArray, List.map_cons, List.map_nil]; rfl) ?_
        with_reducible refine (term_quiet HID.out _ mk HMK.out).mono ?_
        rintro e_ w3 ⟨rfl, n3, rfl⟩
        refine ⟨_, rfl, ?_⟩
        refine hK.out _ _ (pw_cell_below (pw_below_drewN (Below.refl _ _) _) hHeld) (fun hHeld => ?_)
        clear hK K
        refine norm_ (a' := ?_) ?_ ?_
        rotate_left
        · show Act.put _ (some 74) _ = _
          simp only [Act.put, List.setIfInBounds_toArray, List.set_cons_zero, List.set_cons_succ, i64_w, i32_w]
          rfl
        refine pure_ (i := 7) (N := some 79) (v := ?_) (a' := ?_) #[true, true, true, true, true, true, true, true] rfl rfl (by kernel_rfl) (fun _ _ _ h => h) (Or.inl ⟨by rfl, ?_⟩) ?_ ?_
        rotate_left
        · intro w'
          go_simp
          with_reducible rfl
        rotate_left
        · simp only [Act.put, List.setIfInBounds_toArray, List.set_cons_zero, List.set_cons_succ, i64_w, i32_w]
          rfl
        refine done_ (by kernel_rfl) ?_
        have BEn := Aside0.mk (blk_drewN BE.out n3)
        have HBN := Aside0.mk (pw_below_drewN HBD.out n3)
        have HIN := Aside0.mk (HID.out.drewN n3)
        have HXN := Aside0.mk (Kd.C_below HX.out (pw_below_drewN (Below.refl _ _) n3))
        have HSN := Aside0.mk (show gb ≤ (wd.drewN n3).heap.size from HS0.out)
        have HTN := Aside0.mk hHeld
        clear HBD HTC HID HX HS0 hHeld BE
        generalize wd.drewN n3 = wn at BEn HBN HIN HXN HSN HTN ⊢
        by_cases ceq : mk = tk
        · have d8 : (mk == tk) = true := beq_iff_eq.mpr ceq
          go_wp2
          go_roundw
          case rel =>
            refine ⟨k + 1, Fk, hlt, rfl, ⟨?_⟩, HF, ⟨HKR.out.trans HF.out (Kept.of_below HBN.out)⟩⟩
            rw [HLN.out, if_pos (by rw [HMK.out]; exact ceq)]
            exact HIN.out
          case measure =>
            simp only [intOf, Int.toNat_natCast]
            omega
        · have d8 : (mk == tk) = false := beq_eq_false_iff_ne.mpr ceq
          obtain ⟨v0, hb, hg0, hF0, hRV, hb0, hb1⟩ := HIN.out
          obtain ⟨A0, c0, hAv⟩ := Kd.R_slice hRV
          subst hAv
          have hlc := (Kd.R_reads' hRV).2.1
          obtain ⟨j, hj⟩ : ∃ j : Nat, x + 1 + (k : Int) - b - 1 = (j : Int) := ⟨(x + 1 + (k : Int) - b - 1).toNat, by omega⟩
          have hjl : j ≤ lk.length := by have := HPK.out; omega
          have hjn : (x + (k : Int) - b).toNat = j := by omega
          have HJN := Aside0.mk hjn
          have HJ2 := Aside0.mk (show b + ((j + 1 : Nat) : Int) ≤ 64 by omega)
          have hjA : IntKind.i64.wrap (x + 1 + (k : Int) - b - 1) = (j : Int) := by rw [i64_w]; unfold wrap64; omega
          have hjB : IntKind.i64.wrap (wrap64 (x + 1 + (k : Int) - b) - 1) = (j : Int) := by rw [i64_w]; unfold wrap64; omega
          have hcut := cut_full 101 105 Try.underlying101 info105 A0 lk.length c0 j hjl hlc
          have HG0 := Aside0.mk hg0
          have HF0 := Aside0.mk hF0
          have HJL := Aside0.mk hjl
          have HLK := Aside0.mk (show lk.length ≤ 64 by omega)
          have BGr := Aside0.mk hb
          have RVr := Aside0.mk hRV
          have hgl : g < gb := by rw [← hgb]; exact blk_lt (HI.out.reads.choose_spec.choose_spec.1)
          have HGL := Aside0.mk hgl
          have HBL := HBB
          have HNN := Aside0.mk hb0
          clear hjn hg0 hF0 hjl hb hRV hb1 hgl hlc hb0
          go_wp2
          have BG := Aside0.mk (blk_drew BGr.out)
          have BE := Aside0.mk (blk_drew BEn.out)
          have HRV := Aside0.mk (Kd.R_drew RVr.out)
          have HX := Aside0.mk (Kd.C_drew HXN.out)
          have HTC := Aside0.mk (show wn.drew.cell? (adt.add k) = some (Value.int .i64 tk) from HTN.out)
          have HBD := Aside0.mk (below_drew HBN.out)
          have HS0 := Aside0.mk (show gb ≤ wn.drew.heap.size from HSN.out)
          clear BGr BEn RVr HXN HTN HBN HSN HIN
          refine start_ (n := 32) (S := fun w' => w'.cell? ⟨g, 0, none⟩ = some (Value.int .i64 b) ∧ w'.cell? ⟨g, 1, none⟩ = some (Value.slice A0 lk.length c0) ∧ w'.cell? (adt.add k) = some (Value.int .i64 tk) ∧ w'.cell? ⟨gb, 0, none⟩ = some (Value.int .i64 e.f0 : Value) ∧ w'.cell? ⟨gb, 1, none⟩ = some (Value.int .i64 e.f1 : Value) ∧ w'.cell? ⟨gb, 2, none⟩ = some (Value.int .i64 e.f2 : Value) ∧ w'.cell? ⟨gb, 3, none⟩ = some (Value.string e.f3 : Value) ∧ w'.cell? ⟨gb, 4, none⟩ = some (Value.slice A4 e.f4.length c4 : Value) ∧ w'.cell? ⟨gb, 5, none⟩ = some (Value.int .i64 e.f5 : Value)) (ds := [28, 31]) #[false, false, false, false, false, false, false, false, false, false, false, false, false, false, false, false, false, false, false, false, false, false, false, false, false, false, false, false, false, false, false, false] (by kernel_rfl) rfl rfl ⟨(blk_cell BG.out 0).trans rfl, (blk_cell BG.out 1).trans rfl, HTC.out, (blk_cell BE.out 0).trans rfl, (blk_cell BE.out 1).trans rfl, (blk_cell BE.out 2).trans rfl, (blk_cell BE.out 3).trans rfl, (blk_cell BE.out 4).trans rfl, (blk_cell BE.out 5).trans rfl⟩ (fun hHeld => ?_)
          generalize wn.drew = wd at BG BE HRV HX HTC HBD HS0 hHeld ⊢
          refine pure_ (i := 0) (N := some 80) (v := ?_) (a' := ?_) #[true, false, false, false, false, false, false, false, false, false, false, false, false, false, false, false, false, false, false, false, false, false, false, false, false, false, false, false, false, false, false, false] rfl rfl (by kernel_rfl) (fun _ _ _ h => h) (Or.inl ⟨by rfl, ?_⟩) ?_ ?_
          rotate_left
          · intro w'
            go_simp
            with_reducible rfl
          rotate_left
          · simp only [Act.put, List.setIfInBounds_toArray, List.set_cons_zero, List.set_cons_succ, i64_w, i32_w]
            rfl
          refine pure_ (i := 1) (N := some 81) (v := ?_) (a' := ?_) #[true, true, false, false, false, false, false, false, false, false, false, false, false, false, false, false, false, false, false, false, false, false, false, false, false, false, false, false, false, false, false, false] rfl rfl (by kernel_rfl) (fun _ _ _ h => h) (Or.inl ⟨by rfl, ?_⟩) ?_ ?_
          rotate_left
          · intro w'
            go_simp
            with_reducible rfl
          rotate_left
          · simp only [Act.put, List.setIfInBounds_toArray, List.set_cons_zero, List.set_cons_succ, i64_w, i32_w]
            rfl
          refine pure_ (i := 2) (N := some 82) (v := ?_) (a' := ?_) #[true, true, true, false, false, false, false, false, false, false, false, false, false, false, false, false, false, false, false, false, false, false, false, false, false, false, false, false, false, false, false, false] rfl rfl (by kernel_rfl) (fun _ _ _ h => h) (Or.inl ⟨by rfl, ?_⟩) ?_ ?_
          rotate_left
          · intro w'
            go_simp
            with_reducible rfl
          rotate_left
          · simp only [Act.put, List.setIfInBounds_toArray, List.set_cons_zero, List.set_cons_succ, i64_w, i32_w]
            rfl
          refine pure_ (i := 3) (N := some 83) (v := ?_) (a' := ?_) #[true, true, true, true, false, false, false, false, false, false, false, false, false, false, false, false, false, false, false, false, false, false, false, false, false, false, false, false, false, false, false, false] rfl rfl (by kernel_rfl) (fun _ _ _ h => h) (Or.inl ⟨by rfl, ?_⟩) ?_ ?_
          rotate_left
          · intro w'
            go_simp
            with_reducible rfl
          rotate_left
          · simp only [Act.put, List.setIfInBounds_toArray, List.set_cons_zero, List.set_cons_succ, i64_w, i32_w]
            rfl
          refine pure_ (i := 5) (N := some 85) (v := ?_) (a' := ?_) #[true, true, true, true, false, true, false, false, false, false, false, false, false, false, false, false, false, false, false, false, false, false, false, false, false, false, false, false, false, false, false, false] rfl rfl (by kernel_rfl) (fun _ _ _ h => h) (Or.inl ⟨by rfl, ?_⟩) ?_ ?_
          rotate_left
          · intro w'
            go_simp
            with_reducible rfl
          rotate_left
          · simp only [Act.put, List.setIfInBounds_toArray, List.set_cons_zero, List.set_cons_succ, i64_w, i32_w]
            rfl
          refine pure_ (i := 6) (N := some 86) (v := ?_) (a' := ?_) #[true, true, true, true, false, true, true, false, false, false, false, false, false, false, false, false, false, false, false, false, false, false, false, false, false, false, false, false, false, false, false, false] rfl rfl (by kernel_rfl) (fun _ _ _ h => h) (Or.inl ⟨by rfl, ?_⟩) ?_ ?_
          rotate_left
          · intro w'
            go_simp
            with_reducible rfl
          rotate_left
          · simp only [Act.put, List.setIfInBounds_toArray, List.set_cons_zero, List.set_cons_succ, i64_w, i32_w]
            rfl
          refine pure_ (i := 7) (N := some 87) (v := ?_) (a' := ?_) #[true, true, true, true, false, true, true, true, false, false, false, false, false, false, false, false, false, false, false, false, false, false, false, false, false, false, false, false, false, false, false, false] rfl rfl (by kernel_rfl) (fun _ _ _ h => h) (Or.inl ⟨by rfl, ?_⟩) ?_ ?_
          rotate_left
          · intro w'
            go_simp
            with_reducible rfl
          rotate_left
          · simp only [Act.put, List.setIfInBounds_toArray, List.set_cons_zero, List.set_cons_succ, i64_w, i32_w]
            rfl
          refine pure_ (i := 8) (N := some 88) (v := ?_) (a' := ?_) #[true, true, true, true, false, true, true, true, true, false, false, false, false, false, false, false, false, false, false, false, false, false, false, false, false, false, false, false, false, false, false, false] rfl rfl (by kernel_rfl) (fun _ _ _ h => h) (Or.inl ⟨by rfl, ?_⟩) ?_ ?_
          rotate_left
          · intro w'
            go_simp
            with_reducible rfl
          rotate_left
          · simp only [Act.put, List.setIfInBounds_toArray, List.set_cons_zero, List.set_cons_succ, i64_w, i32_w]
            rfl
          refine pure_ (i := 12) (N := some 92) (v := ?_) (a' := ?_) #[true, true, true, true, false, true, true, true, true, false, false, false, true, false, false, false, false, false, false, false, false, false, false, false, false, false, false, false, false, false, false, false] rfl rfl (by kernel_rfl) (fun _ _ _ h => h) (Or.inl ⟨by rfl, ?_⟩) ?_ ?_
          rotate_left
          · intro w'
            go_simp
            with_reducible rfl
          rotate_left
          · simp only [Act.put, List.setIfInBounds_toArray, List.set_cons_zero, List.set_cons_succ, i64_w, i32_w]
            rfl
          refine pure_ (i := 13) (N := some 93) (v := ?_) (a' := ?_) #[true, true, true, true, false, true, true, true, true, false, false, false, true, true, false, false, false, false, false, false, false, false, false, false, false, false, false, false, false, false, false, false] rfl rfl (by kernel_rfl) (fun _ _ _ h => h) (Or.inl ⟨by rfl, ?_⟩) ?_ ?_
          rotate_left
          · intro w'
            go_simp
            with_reducible rfl
          rotate_left
          · simp only [Act.put, List.setIfInBounds_toArray, List.set_cons_zero, List.set_cons_succ, i64_w, i32_w]
            rfl
          refine pure_ (i := 14) (N := some 94) (v := ?_) (a' := ?_) #[true, true, true, true, false, true, true, true, true, false, false, false, true, true, true, false, false, false, false, false, false, false, false, false, false, false, false, false, false, false, false, false] rfl rfl (by kernel_rfl) (fun _ _ _ h => h) (Or.inl ⟨by rfl, ?_⟩) ?_ ?_
          rotate_left
          · intro w'
            go_simp
            with_reducible rfl
          rotate_left
          · simp only [Act.put, List.setIfInBounds_toArray, List.set_cons_zero, List.set_cons_succ, i64_w, i32_w]
            rfl
          refine pure_ (i := 15) (N := some 95) (v := ?_) (a' := ?_) #[true, true, true, true, false, true, true, true, true, false, false, false, true, true, true, true, false, false, false, false, false, false, false, false, false, false, false, false, false, false, false, false] rfl rfl (by kernel_rfl) (fun _ _ _ h => h) (Or.inl ⟨by rfl, ?_⟩) ?_ ?_
          rotate_left
          · intro w'
            go_simp
            with_reducible rfl
          rotate_left
          · simp only [Act.put, List.setIfInBounds_toArray, List.set_cons_zero, List.set_cons_succ, i64_w, i32_w]
            rfl
          refine pure_ (i := 20) (N := some 100) (v := ?_) (a' := ?_) #[true, true, true, true, false, true, true, true, true, false, false, false, true, true, true, true, false, false, false, false, true, false, false, false, false, false, false, false, false, false, false, false] rfl rfl (by kernel_rfl) (fun _ _ _ h => h) (Or.inl ⟨by rfl, ?_⟩) ?_ ?_
          rotate_left
          · intro w'
            go_simp
            with_reducible rfl
          rotate_left
          · simp only [Act.put, List.setIfInBounds_toArray, List.set_cons_zero, List.set_cons_succ, i64_w, i32_w]
            rfl
          refine pure_ (i := 21) (N := some 101) (v := ?_) (a' := ?_) #[true, true, true, true, false, true, true, true, true, false, false, false, true, true, true, true, false, false, false, false, true, true, false, false, false, false, false, false, false, false, false, false] rfl rfl (by kernel_rfl) (fun _ _ _ h => h) (Or.inl ⟨by rfl, ?_⟩) ?_ ?_
          rotate_left
          · intro w'
            go_simp
            with_reducible rfl
          rotate_left
          · simp only [Act.put, List.setIfInBounds_toArray, List.set_cons_zero, List.set_cons_succ, i64_w, i32_w]
            rfl
          refine pure_ (i := 22) (N := some 102) (v := ?_) (a' := ?_) #[true, true, true, true, false, true, true, true, true, false, false, false, true, true, true, true, false, false, false, false, true, true, true, false, false, false, false, false, false, false, false, false] rfl rfl (by kernel_rfl) (fun _ _ _ h => h) (Or.inl ⟨by rfl, ?_⟩) ?_ ?_
          rotate_left
          · intro w'
            go_simp
            with_reducible rfl
          rotate_left
          · simp only [Act.put, List.setIfInBounds_toArray, List.set_cons_zero, List.set_cons_succ, i64_w, i32_w]
            rfl
          refine take_ (i := 4) (N := some 84) (v := ?_) (a' := ?_) #[true, true, true, true, true, true, true, true, true, false, false, false, true, true, true, true, false, false, false, false, true, true, true, false, false, false, false, false, false, false, false, false] rfl rfl (by kernel_rfl) (fun _ _ _ h => h) (Or.inl ⟨by rfl, ?_⟩) hHeld ?_ ?_
          rotate_left
          · rintro w' ⟨s0, s1, s2, s3, s4, s5, s6, s7, s8⟩
            go_simp
            with_reducible rfl
          rotate_left
          · simp only [Act.put, List.setIfInBounds_toArray, List.set_cons_zero, List.set_cons_succ, i64_w, i32_w]
            rfl
          refine take_ (i := 9) (N := some 89) (v := ?_) (a' := ?_) #[true, true, true, true, true, true, true, true, true, true, false, false, true, true, true, true, false, false, false, false, true, true, true, false, false, false, false, false, false, false, false, false] rfl rfl (by kernel_rfl) (fun _ _ _ h => h) (Or.inl ⟨by rfl, ?_⟩) hHeld ?_ ?_
          rotate_left
          · rintro w' ⟨s0, s1, s2, s3, s4, s5, s6, s7, s8⟩
            go_simp
            with_reducible rfl
          rotate_left
          · simp only [Act.put, List.setIfInBounds_toArray, List.set_cons_zero, List.set_cons_succ, i64_w, i32_w]
            rfl
          refine pure_ (i := 10) (N := some 90) (v := ?_) (a' := ?_) #[true, true, true, true, true, true, true, true, true, true, true, false, true, true, true, true, false, false, false, false, true, true, true, false, false, false, false, false, false, false, false, false] rfl rfl (by kernel_rfl) (fun _ _ _ h => h) (Or.inl ⟨by rfl, ?_⟩) ?_ ?_
          rotate_left
          · intro w'
            go_simp
            with_reducible rfl
          rotate_left
          · simp only [Act.put, List.setIfInBounds_toArray, List.set_cons_zero, List.set_cons_succ, i64_w, i32_w]
            rfl
          refine pure_ (i := 11) (N := some 91) (v := ?_) (a' := ?_) #[true, true, true, true, true, true, true, true, true, true, true, true, true, true, true, true, false, false, false, false, true, true, true, false, false, false, false, false, false, false, false, false] rfl rfl (by kernel_rfl) (fun _ _ _ h => h) (Or.inl ⟨by rfl, ?_⟩) ?_ ?_
          rotate_left
          · intro w'
            go_simp
            with_reducible rfl
          rotate_left
          · simp only [Act.put, List.setIfInBounds_toArray, List.set_cons_zero, List.set_cons_succ, i64_w, i32_w]
            rfl
          refine take_ (i := 16) (N := some 96) (v := ?_) (a' := ?_) #[true, true, true, true, true, true, true, true, true, true, true, true, true, true, true, true, true, false, false, false, true, true, true, false, false, false, false, false, false, false, false, false] rfl rfl (by kernel_rfl) (fun _ _ _ h => h) (Or.inl ⟨by rfl, ?_⟩) hHeld ?_ ?_
          rotate_left
          · rintro w' ⟨s0, s1, s2, s3, s4, s5, s6, s7, s8⟩
            go_simp
            with_reducible rfl
          rotate_left
          · simp only [Act.put, List.setIfInBounds_toArray, List.set_cons_zero, List.set_cons_succ, i64_w, i32_w]
            rfl
          refine pure_ (i := 17) (N := some 97) (v := ?_) (a' := ?_) #[true, true, true, true, true, true, true, true, true, true, true, true, true, true, true, true, true, true, false, false, true, true, true, false, false, false, false, false, false, false, false, false] rfl rfl (by kernel_rfl) (fun _ _ _ h => h) (Or.inl ⟨by rfl, ?_⟩) ?_ ?_
          rotate_left
          · intro w'
            go_simp
            with_reducible rfl
          rotate_left
          · simp only [Act.put, List.setIfInBounds_toArray, List.set_cons_zero, List.set_cons_succ, i64_w, i32_w]
            rfl
          refine pure_ (i := 18) (N := some 98) (v := ?_) (a' := ?_) #[true, true, true, true, true, true, true, true, true, true, true, true, true, true, true, true, true, true, true, false, true, true, true, false, false, false, false, false, false, false, false, false] rfl rfl (by kernel_rfl) (fun _ _ _ h => h) (Or.inl ⟨by rfl, ?_⟩) ?_ ?_
          rotate_left
          · intro w'
            go_simp
            with_reducible rfl
          rotate_left
          · simp only [Act.put, List.setIfInBounds_toArray, List.set_cons_zero, List.set_cons_succ, i64_w, i32_w]
            rfl
          refine pure_ (i := 19) (N := some 99) (v := ?_) (a' := ?_) #[true, true, true, true, true, true, true, true, true, true, true, true, true, true, true, true, true, true, true, true, true, true, true, false, false, false, false, false, false, false, false, false] rfl rfl (by kernel_rfl) (fun _ _ _ h => h) (Or.inl ⟨by rfl, ?_⟩) ?_ ?_
          rotate_left
          · intro w'
            go_simp
            with_reducible rfl
          rotate_left
          · simp only [Act.put, List.setIfInBounds_toArray, List.set_cons_zero, List.set_cons_succ, i64_w, i32_w]
            rfl
          refine take_ (i := 23) (N := some 103) (v := ?_) (a' := ?_) #[true, true, true, true, true, true, true, true, true, true, true, true, true, true, true, true, true, true, true, true, true, true, true, true, false, false, false, false, false, false, false, false] rfl rfl (by kernel_rfl) (fun _ _ _ h => h) (Or.inl ⟨by rfl, ?_⟩) hHeld ?_ ?_
          rotate_left
          · rintro w' ⟨s0, s1, s2, s3, s4, s5, s6, s7, s8⟩
            go_simp
            with_reducible rfl
          rotate_left
          · simp only [Act.put, List.setIfInBounds_toArray, List.set_cons_zero, List.set_cons_succ, i64_w, i32_w]
            rfl
          refine take_ (i := 24) (N := some 104) (v := ?_) (a' := ?_) #[true, true, true, true, true, true, true, true, true, true, true, true, true, true, true, true, true, true, true, true, true, true, true, true, true, false, false, false, false, false, false, false] rfl rfl (by kernel_rfl) (fun _ _ _ h => h) (Or.inl ⟨by rfl, ?_⟩) hHeld ?_ ?_
          rotate_left
          · rintro w' ⟨s0, s1, s2, s3, s4, s5, s6, s7, s8⟩
            go_simp
            with_reducible rfl
          rotate_left
          · simp only [Act.put, List.setIfInBounds_toArray, List.set_cons_zero, List.set_cons_succ, i64_w, i32_w]
            rfl
          refine one_ (i := 25) (N := some 105) #[true, true, true, true, true, true, true, true, true, true, true, true, true, true, true, true, true, true, true, true, true, true, true, true, true, true, false, false, false, false, false, false] rfl rfl (by kernel_rfl) (by decide) (fun K hK => ?_)
          refine goes_ Try.func65 (by kernel_rfl) rfl #[.agg #[.int .i64 e.f0, .int .i64 e.f1, .int .i64 e.f2, .string e.f3, .slice A4 e.f4.length c4, .int .i64 e.f5]] (by rfl) rfl rfl (by simp only [List.map_toArray, List.map_cons, List.map_nil]; rfl) ?_
          with_reducible refine (twin_calls e A4 c4 _ HX.out HXC.out HXM.out).mono ?_
          rintro e_ w3 ⟨v4, rfl, hr3, hb3⟩
          refine ⟨_, rfl, ?_⟩
          have HR3 := Aside0.mk hr3
          have HB3 := Aside0.mk hb3
          clear hr3 hb3
          refine hK.out _ _ ⟨pw_cell_below HB3.out (hHeld.1), pw_cell_below HB3.out (hHeld.2.1), pw_cell_below HB3.out (hHeld.2.2.1), pw_cell_below HB3.out (hHeld.2.2.2.1), pw_cell_below HB3.out (hHeld.2.2.2.2.1), pw_cell_below HB3.out (hHeld.2.2.2.2.2.1), pw_cell_below HB3.out (hHeld.2.2.2.2.2.2.1), pw_cell_below HB3.out (hHeld.2.2.2.2.2.2.2.1), pw_cell_below HB3.out (hHeld.2.2.2.2.2.2.2.2)⟩ (fun hHeld => ?_)
          clear hK K
          refine norm_ (a' := ?_) ?_ ?_
          rotate_left
          · show Act.put _ (some 105) _ = _
            simp only [Act.put, List.setIfInBounds_toArray, List.set_cons_zero, List.set_cons_succ, i64_w, i32_w]
            rfl
          refine pure_ (i := 26) (N := some 106) (v := ?_) (a' := ?_) #[true, true, true, true, true, true, true, true, true, true, true, true, true, true, true, true, true, true, true, true, true, true, true, true, true, true, true, false, false, false, false, false] rfl rfl (by kernel_rfl) (fun _ _ _ h => h) (Or.inl ⟨by rfl, ?_⟩) ?_ ?_
          rotate_left
          · intro w'
            go_simp
            with_reducible rfl
          rotate_left
          · simp only [Act.put, List.setIfInBounds_toArray, List.set_cons_zero, List.set_cons_succ, i64_w, i32_w]
            rfl
          refine one_ (i := 27) (N := some 107) #[true, true, true, true, true, true, true, true, true, true, true, true, true, true, true, true, true, true, true, true, true, true, true, true, true, true, true, true, false, false, false, false] rfl rfl (by kernel_rfl) (by decide) (fun K hK => ?_)
          refine value_ (w1 := ?_) (v := ?_) (by rfl) rfl ?_ ?_
          rotate_left 2
          · go_simp
            constructor
            · rfl
            · rfl
          refine hK.out _ _ ⟨pw_cell_below (below_alloc (Below.refl _ _) _) (hHeld.1), pw_cell_below (below_alloc (Below.refl _ _) _) (hHeld.2.1), pw_cell_below (below_alloc (Below.refl _ _) _) (hHeld.2.2.1), pw_cell_below (below_alloc (Below.refl _ _) _) (hHeld.2.2.2.1), pw_cell_below (below_alloc (Below.refl _ _) _) (hHeld.2.2.2.2.1), pw_cell_below (below_alloc (Below.refl _ _) _) (hHeld.2.2.2.2.2.1), pw_cell_below (below_alloc (Below.refl _ _) _) (hHeld.2.2.2.2.2.2.1), pw_cell_below (below_alloc (Below.refl _ _) _) (hHeld.2.2.2.2.2.2.2.1), pw_cell_below (below_alloc (Below.refl _ _) _) (hHeld.2.2.2.2.2.2.2.2)⟩ (fun hHeld => ?_)
          clear hK K
          refine norm_ (a' := ?_) ?_ ?_
          rotate_left
          · show Act.put _ (some 107) _ = _
            simp only [Act.put, List.setIfInBounds_toArray, List.set_cons_zero, List.set_cons_succ, i64_w, i32_w]
            rfl
          refine last_ (i := 28) (N := some 108) #[true, true, true, true, true, true, true, true, true, true, true, true, true, true, true, true, true, true, true, true, true, true, true, true, true, true, true, true, true, false, false, false] rfl rfl (by kernel_rfl) (by decide) (fun K hK => ?_)
          refine R_full_step k105 B (by rfl) (.tmp 99) (.tmp 107) 101 105 (.agg #[.int .i64 0, .int .i64 0, .int .i64 0, .int .i64 0, .string ⟨#[]⟩, .slice none 0 0, .int .i64 0]) 80 rfl Try.underlying101 info105 rfl (by decide) (by omega) A0 c0 lk.length j lk (⟨tk, e⟩ : S105) [.int .i64 tk, .int .i64 e.f0, .int .i64 e.f1, .int .i64 e.f2, .string e.f3, v4, .int .i64 e.f5] (fun q => (Fk q ∨ gb ≤ q) ∧ q ≠ g) (fun q => gb ≤ q ∧ q ≠ g) rfl rfl HJL.out ?aP ?aK ?aF ?aO ?aS ?aL ?_
          (case aP => exact k105_mkM _ _ _ (⟨tk, e⟩ : S105) (row_new HR3.out HS0.out (Nat.le_trans HBG.out HS0.out) (Nat.lt_of_lt_of_le HGL.out HS0.out)))
          (case aK => intro q hq; exact ⟨.inr hq.1, hq.2⟩)
          (case aF => intro q hq; have := HB3.out.size; have := HS0.out; have := HGL.out; exact ⟨.inr (by omega), by omega⟩)
          (case aO => exact Kd.R_mono (Kd.R_below HRV.out HB3.out) (fun q hq => ⟨.inl hq.1, hq.2⟩))
          (case aS => have := HB3.out.size; have := HBG.out; have := HS0.out; omega)
          (case aL => have := HLK.out; have := HJL.out; omega)
          intro v1 w5 ho hg
          obtain ⟨Av, cv, rfl⟩ := Kd.R_slice ho
          have HO5 := Aside0.mk ho
          have HG5 := Aside0.mk hg
          clear ho hg
          refine hK.out _ _ ?_
          clear hK K
          refine norm_ (a' := ?_) ?_ ?_
          rotate_left
          · show Act.put _ (some 108) _ = _
            simp only [Act.put, List.setIfInBounds_toArray, List.set_cons_zero, List.set_cons_succ, i64_w, i32_w]
            rfl
          refine pure_ (i := 29) (N := some 109) (v := ?_) (a' := ?_) #[true, true, true, true, true, true, true, true, true, true, true, true, true, true, true, true, true, true, true, true, true, true, true, true, true, true, true, true, true, true, false, false] rfl rfl (by kernel_rfl) (fun _ _ _ h => h) (Or.inl ⟨by rfl, ?_⟩) ?_ ?_
          rotate_left
          · intro w'
            go_simp
            with_reducible rfl
          rotate_left
          · simp only [Act.put, List.setIfInBounds_toArray, List.set_cons_zero, List.set_cons_succ, i64_w, i32_w]
            rfl
          refine pure_ (i := 30) (N := some 110) (v := ?_) (a' := ?_) #[true, true, true, true, true, true, true, true, true, true, true, true, true, true, true, true, true, true, true, true, true, true, true, true, true, true, true, true, true, true, true, false] rfl rfl (by kernel_rfl) (fun _ _ _ h => h) (Or.inl ⟨by rfl, ?_⟩) ?_ ?_
          rotate_left
          · intro w'
            go_simp
            with_reducible rfl
          rotate_left
          · simp only [Act.put, List.setIfInBounds_toArray, List.set_cons_zero, List.set_cons_succ, i64_w, i32_w]
            rfl
          refine last_ (i := 31) (N := none) #[true, true, true, true, true, true, true, true, true, true, true, true, true, true, true, true, true, true, true, true, true, true, true, true, true, true, true, true, true, true, true, true] rfl rfl (by kernel_rfl) (by decide) (fun K hK => ?_)
          have hbg5 := blk_grown (blk_below BG.out HB3.out) HG5.out (by simp)
          have BG5 := Aside0.mk hbg5
          have hs5 : w5.cell? ⟨g, 1, none⟩ = some (Value.slice A0 lk.length c0) := (blk_cell BG5.out 1).trans rfl
          have hf5 := blk_frozen BG5.out 1
          clear hbg5
          refine skip_ (w1 := ?_) (by rfl) rfl ?_ ?_
          rotate_left
          · go_simp
            rfl
          refine hK.out _ _ ?_
          clear hK K
          refine done_ (by kernel_rfl) ?_
          have hll : (lk.take j ++ [(⟨tk, e⟩ : S105)]).length = min j lk.length + 1 := by rw [List.length_append, List.length_take, List.length_singleton]
          have HO6 := HO5.out
          rw [hll] at HO6
          have HO7 := Aside0.mk HO6
          have HLL := Aside0.mk hll
          clear HO6 hll HO5 hHeld hs5 hf5
          go_wp2
          go_roundw
          case rel =>
            refine ⟨k + 1, fun q => Fk q ∨ gb ≤ q, hlt, rfl, ⟨?_⟩, ⟨?_⟩, ⟨?_⟩⟩
            · rw [HLN.out, if_neg (by rw [HMK.out]; exact ceq), HJN.out]
              refine ⟨_, by simpa using blk_set BG5.out 1 (.slice Av (min j lk.length + 1) cv), .inl HG0.out, fun q hq => hq.elim (HF0.out q) (fun h => Nat.le_trans HBG.out h), Kd.R_step HO7.out (fun q hq _ => Below.heap_setCell w5 _ _ q hq.2), HNN.out, ?_⟩
              rw [HLL.out]
              have := HJ2.out
              omega
            · intro q hq
              have := HKR.out.size
              rcases hq with hq | hq
              · exact HF.out q hq
              · exact .inr (by omega)
            · refine HKR.out.trans HF.out (F' := Fk) ?_
              have h1 : Kept Fk wr w3 := (Kept.of_below HBD.out).below HB3.out
              exact (h1.trans (fun q hq => .inl hq) (kept_grown HG5.out (fun q hq => by cases hq))).trans (fun q hq => .inl hq) (kept_set w5 _ _ HG0.out)
          case measure =>
            simp only [intOf, Int.toNat_natCast]
            omega
      · have hkl : k = es.length := by omega
        subst hkl
        have hq := eq_false (show ¬ ((es.length : Int) < (es.length : Int)) by omega)
        have hx6 := HC6.out
        clear hk hlt
        go_wp2
        go_ret2
        exact ⟨Fk, rfl, HI.out.drawn (by repeat (first | exact Drawn0.refl _ | apply Drawn0.step)), HF.out, HKR.out.below (drawn_below (by repeat (first | exact Drawn0.refl _ | apply Drawn0.step)))⟩

end Go.Proofs.Ytbomomaidglegaa.Hist
