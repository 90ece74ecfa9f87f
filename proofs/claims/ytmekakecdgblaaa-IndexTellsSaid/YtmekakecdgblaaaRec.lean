
/-
  A region that draws its order inside a deferred function (what recovers may stand in it): walked once for each order.
-/
import Derived.Test.YtmekakecdgblaaaProg
import Derived.Recover
import Derived.Orders
import Derived.KernelRfl
namespace Go.Proofs.Ytmekakecdgblaaa
open Go
set_option linter.unusedVariables false

section
variable {P : Program} {ops : Array Oper} {Q : Exit → Act → List Frame → World → Prop} {a : Act} {cs : List Frame} {w : World}
theorem wpS_region_draw {id : Nat} (h : ∀ t, wpOpsS P ops Q (Region.schedule (P.follows .mixedOrders) ops t) a cs { w with drawn := w.drawn + 1 }) : (Code.region id ops true).wpS P Q a cs w :=
  fun b k hb hr => let ⟨e, a', cs', w', q, r⟩ := wp_opsS _ a cs _ (h _) b k hb hr; ⟨e, a', cs', w', q, .of_steps (.one step_region_draw) r⟩
/-- All orders that a region may draw. -/
def ordersOf (md : Region.Mode) (ops : Array Oper) : Nat → Array Bool → List (List Nat)
  | 0, _ => [[]]
  | f + 1, listed => match Region.ready md ops listed with
    | [] => [[]]
    | r => r.flatMap fun i => (ordersOf md ops f (listed.setIfInBounds i true)).map (i :: ·)
theorem linearise_mem (md : Region.Mode) (ops : Array Oper) : ∀ (f t : Nat) (listed : Array Bool), Region.linearise.go md ops f t listed [] ∈ ordersOf md ops f listed
  | 0, t, listed => by simp [Region.linearise.go, ordersOf]
  | f + 1, t, listed => by
    simp only [Region.linearise.go]
    change (match (Region.ready md ops listed)[t % (Region.ready md ops listed).length]? with
      | some i => Region.linearise.go md ops f (t / (Region.ready md ops listed).length) (listed.setIfInBounds i true) [i]
      | none => [].reverse) ∈ _
    cases hi : (Region.ready md ops listed)[t % (Region.ready md ops listed).length]? with
    | none =>
      have hnil : Region.ready md ops listed = [] := by
        cases hr : Region.ready md ops listed with
        | nil => rfl
        | cons x xs =>
          rw [hr] at hi
          have hlt : t % (x :: xs).length < (x :: xs).length := Nat.mod_lt _ (by simp)
          simp at hi
          simp at hlt
          omega
      simp [ordersOf, hnil]
    | some i =>
      simp only []
      rw [linearise_go_acc, List.reverse_singleton, List.singleton_append]
      have hm := List.mem_of_getElem? hi
      have ih := linearise_mem md ops f (t / (Region.ready md ops listed).length) (listed.setIfInBounds i true)
      rw [ordersOf]
      cases hr : Region.ready md ops listed with
      | nil => rw [hr] at hm; cases hm
      | cons x xs =>
        rw [hr] at hm ih
        exact List.mem_flatMap.2 ⟨i, hm, List.mem_map.2 ⟨_, ih, rfl⟩⟩
theorem wpS_orders {id : Nat} (L : List (List Nat)) (hm : P.follows .mixedOrders = true) (hL : ordersOf .any ops ops.size (Array.replicate ops.size false) = L)
    (h : ∀ σ ∈ L, wpOpsS P ops Q σ a cs { w with drawn := w.drawn + 1 }) : (Code.region id ops true).wpS P Q a cs w :=
  wpS_region_draw fun t => by
    simp only [Region.schedule, hm, Bool.true_or, if_true]
    exact h _ (hL ▸ linearise_mem .any ops ops.size t _)
end
end Go.Proofs.Ytmekakecdgblaaa
