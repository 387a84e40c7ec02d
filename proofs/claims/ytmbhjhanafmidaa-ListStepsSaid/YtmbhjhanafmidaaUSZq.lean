/- Facts behind a box's two stores, and past a call's two rows. -/
import Derived.Test.YtmbhjhanafmidaaUSZr
namespace Go.Proofs.Ytmbhjhanafmidaa.Zq
open Go Go.RowKit Go.Proofs.Ytmbhjhanafmidaa.Zr Go.Proofs.YtmbhjhanafmidaaW.PrintWords Go.Proofs.YtmbhjhanafmidaaW.PrintLast Go.Proofs.YtmbhjhanafmidaaW.PrintMore
theorem zyw {α : Type} {d : Kd α} {e : Nat} {w : World} {base : Nat} {ok : Nat → Prop} {v : Value} {xs : List α} {g t : Nat} {cs : Array Value} (h : Aside0 (d.R e w base ok v xs)) (hb : Aside0 (w.heap[g]? = some (.cells cs t (0, 0)))) (u u' : Value) (ht : ∀ q, q ∈ e :: d.E → q ≠ t := by decide) : Aside0 (d.R e ((w.setCell ⟨g, 0, none⟩ u).setCell ⟨g, 1, none⟩ u') base ok v xs) :=
 ⟨rm (Kd.R_far (p := ⟨g, 1, none⟩) (Kd.R_far (p := ⟨g, 0, none⟩) (Kd.R_types h.out hb.out ht) (fun _ hk => hk.2) u) (fun _ hk => hk.2) u') (fun _ hk => hk.1)⟩
theorem zfw {w : World} {g g' t : Nat} {cs : Array Value} (h : Aside0 (w.heap[g]? = some (.cells cs t (0, 0)))) (hn : Aside0 (g ≠ g')) (u u' : Value) : Aside0 (((w.setCell ⟨g', 0, none⟩ u).setCell ⟨g', 1, none⟩ u').heap[g]? = some (.cells cs t (0, 0))) := ⟨blk_far (blk_far h.out hn.out _) hn.out _⟩
theorem zpw {w : World} {g t : Nat} {x y : Value} (h : Aside0 (w.heap[g]? = some (.cells #[x, y] t (0, 0)))) (u u' : Value) : Aside0 (((w.setCell ⟨g, 0, none⟩ u).setCell ⟨g, 1, none⟩ u').heap[g]? = some (.cells #[u, u'] t (0, 0))) := ⟨blk_put (blk_put h.out 0 u rfl) 1 u' rfl⟩
theorem rmt {α β γ : Type} {d : Kd α} {d1 : Kd β} {d2 : Kd γ} {e e1 e2 : Nat} {w0 W w1 : World} {base : Nat} {ok ok1 ok2 : Nat → Prop} {v v1 v2 : Value} {xs : List α} {ys : List β} {zs : List γ} (h : Aside0 (d.R e w0 base ok v xs)) (hb : Below W.heap.size W w1) (h1 : d1.R e1 w1 W.heap.size ok1 v1 ys) (h2 : d2.R e2 w1 W.heap.size ok2 v2 zs)
  (hq : d.R e w0 base ok v xs → d.R e W base ok v xs := by intro h_; ((with_reducible repeat (first | apply ra | apply rn | apply rd_)); exact h_)) : d.R e w1 base (fun k => (ok k ∧ some k ≠ v1.ownBlock) ∧ some k ≠ v2.ownBlock) v xs :=
 rm (rt (rt (ro (hq h.out) hb) (rb h1)) (rb h2)) (fun _ h_ => h_.1)
end Go.Proofs.Ytmbhjhanafmidaa.Zq
