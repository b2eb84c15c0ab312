/- Steps of a printed walk under short names: each finds its world's way by itself. -/
import Derived.Test.YtimeknpdgloenaaWMore
namespace Go.Proofs.Ytimeknpdgloenaa.Short
open Go Go.RowKit Go.Proofs.YtimeknpdgloenaaW.PrintWords Go.Proofs.YtimeknpdgloenaaW.PrintLast Go.Proofs.YtimeknpdgloenaaW.PrintMore
theorem RB {α : Type} {d : Kd α} {e : TypeId} {W W1 w2 : World} {b : Nat} {ok : Nat → Prop} {v : Value} {l : List α} (H : Aside0 (Kd.R d e W b ok v l)) (hb : Below W1.heap.size W1 w2)
    (ht : Kd.R d e W b ok v l → Kd.R d e W1 b ok v l := by intro h_; with_reducible repeat (first | exact h_ | apply Kd.R_alloc | apply Kd.R_drewN | apply Kd.R_drew)) : Aside0 (Kd.R d e w2 b ok v l) := Aside0.mk (Kd.R_below (ht H.out) hb)
theorem RW {α : Type} {d : Kd α} {e : TypeId} {W W1 : World} {b : Nat} {ok : Nat → Prop} {v : Value} {l : List α} (H : Aside0 (Kd.R d e W b ok v l))
    (ht : Kd.R d e W b ok v l → Kd.R d e W1 b ok v l := by intro h_; with_reducible repeat (first | exact h_ | apply Kd.R_alloc | apply Kd.R_drewN | apply Kd.R_drew)) : Kd.R d e W1 b ok v l := ht H.out
theorem RX {α : Type} {d : Kd α} {e : TypeId} {W W1 : World} {b : Nat} {ok : Nat → Prop} {v : Value} {l : List α} (H : Kd.R d e W b ok v l)
    (ht : Kd.R d e W b ok v l → Kd.R d e W1 b ok v l := by intro h_; with_reducible repeat (first | exact h_ | apply Kd.R_alloc | apply Kd.R_drewN | apply Kd.R_drew)) : Kd.R d e W1 b ok v l := ht H
theorem BW {W W1 : World} {g : Nat} {o : Obj} (H : Aside0 (W.heap[g]? = some o))
    (ht : W.heap[g]? = some o → W1.heap[g]? = some o := by intro h_; with_reducible repeat (first | exact h_ | refine blk_drewN ?_ _ | refine blk_drew ?_ | refine blk_alloc ?_ _)) : W1.heap[g]? = some o := ht H.out
theorem SW {w W W1 : World} (H : Aside0 (Below w.heap.size w W))
    (ht : Below w.heap.size w W → Below w.heap.size w W1 := by intro h_; repeat (first | (with_reducible first | exact h_ | apply below_alloc | apply pw_below_drewN | apply below_drew1) | exact h_ | refine below_set ?_ (Aside0.out (by assumption)))) : Below w.heap.size w W1 := ht H.out
theorem BB {W W1 w2 : World} {g : Nat} {o : Obj} (H : Aside0 (W.heap[g]? = some o)) (hb : Below W1.heap.size W1 w2)
    (ht : W.heap[g]? = some o → W1.heap[g]? = some o := by intro h_; with_reducible repeat (first | exact h_ | refine blk_drewN ?_ _ | refine blk_drew ?_ | refine blk_alloc ?_ _)) : Aside0 (w2.heap[g]? = some o) := Aside0.mk (blk_below (ht H.out) hb)
theorem SB {w W W1 w2 : World} (H : Aside0 (Below w.heap.size w W)) (hb : Below W1.heap.size W1 w2)
    (ht : Below w.heap.size w W → Below w.heap.size w W1 := by intro h_; repeat (first | (with_reducible first | exact h_ | apply below_alloc | apply pw_below_drewN | apply below_drew1) | exact h_ | refine below_set ?_ (Aside0.out (by assumption)))) : Aside0 (Below w.heap.size w w2) := Aside0.mk (below_step (ht H.out) hb)
theorem RC {α : Type} {d : Kd α} {e : TypeId} {W W1 : World} {b : Nat} {ok : Nat → Prop} {A : Option Addr} {n c : Nat} {l : List α} (H : Aside0 (Kd.R d e W b ok (.slice A n c) l))
    (ht : Kd.C d W A l.length l → Kd.C d W1 A l.length l := by intro h_; repeat (first | exact h_ | (with_reducible refine Kd.C_alloc ?_ _) | (with_reducible refine Kd.C_drewN ?_ _) | (with_reducible refine Kd.C_drew ?_))) : Kd.C d W1 A l.length l := ht (Kd.R_reads' H.out).2.2
theorem RL {α : Type} {d : Kd α} {e : TypeId} {W : World} {b : Nat} {ok : Nat → Prop} {A : Option Addr} {n c : Nat} {l : List α} (H : Aside0 (Kd.R d e W b ok (.slice A n c) l)) : n ≤ c := (Kd.R_reads' H.out).2.1
theorem C0 {w : World} {g : Nat} {t : TypeId} {a b : Value} (H : Aside0 (w.heap[g]? = some (.cells #[a, b] t (0, 0)))) : w.cell? ⟨g, 0, none⟩ = some a := (blk_cell H.out 0).trans rfl
theorem C1 {w : World} {g : Nat} {t : TypeId} {a b : Value} (H : Aside0 (w.heap[g]? = some (.cells #[a, b] t (0, 0)))) : w.cell? ⟨g, 1, none⟩ = some b := (blk_cell H.out 1).trans rfl
end Go.Proofs.Ytimeknpdgloenaa.Short
