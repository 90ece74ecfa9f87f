/-
  Bytes to be read, in one word.
  A region that draws its order inside a deferred function (what recovers may stand in it): walked once for each order.
  bytes.Clone; bytes put behind bytes of one's own.
-/
import Derived.Test.YtmbdpcamhkdkmaaGreatDoorMg7
import Derived.Test.YtmbdpcamhkdkmaaGreatDoorProg
import Derived.Recover
import Derived.Orders
import Derived.KernelRfl
namespace Go.Proofs.YtmbdpcamhkdkmaaGreatDoor
open Go.RowKit
set_option linter.unusedVariables false
set_option linter.unusedSimpArgs false

/-- v is a slice of these bytes, to be read. -/
structure By (w : World) (v : Value) (L : List Int) : Prop where
  rd : Rd w 1 v L.length (bytesV L)
  nil : NilOk v
  byte : ∀ x ∈ L, 0 ≤ x ∧ x ≤ 255
section
variable {w w' wr : World} {v : Value} {L : List Int} {a : Option Addr} {n c : Nat}
theorem By.keptF (h : By w v L) {F : Nat → Prop} (hc : Chg w w' F) (hf : ∀ k, blkOf v k → ¬ F k) : By w' v L := ⟨h.rd.kept hc hf, h.nil, h.byte⟩
theorem By.kept (h : By w v L) (hc : Chg w w' nob) : By w' v L := h.keptF hc (fun _ _ => id)
theorem By.alloc (h : By w v L) (o : Obj) : By (w.alloc o) v L := h.kept ((Chg.refl w nob).alloc o)
theorem By.form (h : By w v L) : ∃ ao cap, v = .slice ao L.length cap ∧ L.length ≤ cap := by
  obtain ⟨ao, cap, h1, h2, _⟩ := h.rd.form
  exact ⟨ao, cap, h1, h2⟩
theorem By.lt (h : By w v L) (hL : L ≠ []) {k : Nat} (hk : blkOf v k) : k < w.heap.size := h.rd.lt (by simpa [bytesV] using hL) hk
/-- Kept where what is not empty lies apart. -/
theorem By.keptN (h : By w v L) {F : Nat → Prop} (hc : Chg w w' F) (hf : L ≠ [] → ∀ k, blkOf v k → ¬ F k) : By w' v L := by
  by_cases hL : L = []
  · subst hL
    obtain ⟨ao, cap, rfl, h1⟩ := h.form
    exact ⟨⟨ao, cap, rfl, h1, by simp [bytesV], fun j u hu => by simp [bytesV] at hu⟩, h.nil, h.byte⟩
  · exact h.keptF hc (hf hL)
theorem By.cell (h : By w (.slice a n c) L) {i : Nat} (hi : i < L.length) : ∃ g o, a = some ⟨g, o, none⟩ ∧ w.cell? ⟨g, o + i, none⟩ = some (.int .u8 (L.getD i 0)) := by
  obtain ⟨ao, cap, e, _⟩ := h.form
  cases e
  exact h.rd.cell (j := i) (u := .int .u8 (L.getD i 0)) (by simp [bytesV, List.getD, hi])
theorem By.at0 (h : By w v L) (hi : 0 < L.length) : ∃ g o cap, v = .slice (some ⟨g, o, none⟩) L.length cap ∧ L.length ≤ cap ∧ ∀ i, i < L.length → w.cell? ⟨g, o + i, none⟩ = some (.int .u8 (L.getD i 0)) := by
  obtain ⟨ao, cap, rfl, hc⟩ := h.form
  obtain ⟨g, o, rfl, _⟩ := h.cell hi
  refine ⟨g, o, cap, rfl, hc, fun i hi => ?_⟩
  obtain ⟨g', o', e, h'⟩ := h.cell hi
  cases e
  exact h'
theorem By.mid (h : By w (.slice a L.length c) L) {l m : Nat} (hl : l ≤ m) (hm : m ≤ L.length) : By w (.slice (addS a c l) (m - l) (c - l)) ((L.take m).drop l) := by
  have e : ((L.take m).drop l).length = m - l := by simp; omega
  refine ⟨?_, h.nil.cut, fun x hx => h.byte x (List.mem_of_mem_take (List.mem_of_mem_drop hx))⟩
  rw [e]
  simpa [bytesV, List.map_take, List.map_drop] using h.rd.cut hl hm
theorem By.take (h : By w (.slice a L.length c) L) {m : Nat} (hm : m ≤ L.length) : By w (.slice (addS a c 0) m c) (L.take m) := by
  simpa using h.mid (Nat.zero_le m) hm
theorem By.drop (h : By w (.slice a L.length c) L) {l : Nat} (hl : l ≤ L.length) : By w (.slice (addS a c l) (L.length - l) (c - l)) (L.drop l) := by
  simpa using h.mid hl (Nat.le_refl _)
theorem By.nilv (w : World) (c : Nat) (hc : c = 0) : By w (.slice none 0 c) [] := ⟨⟨none, c, rfl, Nat.zero_le _, rfl, fun j u hu => by simp [bytesV] at hu⟩, fun n c' e => by cases e; exact hc, fun x hx => by cases hx⟩
theorem By.lit (w : World) (L : List Int) (hb : ∀ x ∈ L, 0 ≤ x ∧ x ≤ 255) : By (w.alloc (.cells (bytesV L).toArray 5)) (.slice (some ⟨w.heap.size, 0, none⟩) L.length L.length) L :=
  ⟨by have h := Rd.made w 5 (bytesV L).toArray (size := 1) (n := L.length) (c := L.length) (by simp [bytesV]) (Nat.le_refl _); exact h, fun n c e => (by cases e), hb⟩
theorem By.ofBx (h : Bx w wr v L) (hb : ∀ x ∈ L, 0 ≤ x ∧ x ≤ 255) : By wr v L := ⟨h.1.rd, h.1.nilOk, hb⟩
theorem By.empty (h : By w v L) (hL : L.length = 0) : ∃ a c, v = .slice a 0 c := by
  obtain ⟨a, c, e, _⟩ := h.form
  rw [hL] at e
  exact ⟨a, c, e⟩
theorem Bx.newer (h : Bx w wr v L) {w0 : World} (hc : Chg w0 w nob) : Bx w0 wr v L := ⟨h.1, hc.trans h.2.1 (fun _ _ x => x), fun k hk => Nat.le_trans hc.size (h.2.2 k hk)⟩
theorem Bx.keptC (h : Bx w wr v L) (hc : Chg wr w' nob) : Bx w w' v L := ⟨h.1.kept hc (fun _ _ => id), h.2.1.trans hc (fun _ _ x => x), h.2.2⟩
end
/-- A row of one's own that is new since w. -/
def Nw (w wr : World) (e : TypeId) (v : Value) (xs : List Value) : Prop := Own wr e 1 v xs.length xs ∧ Chg w wr nob ∧ ∀ k, blkOf v k → w.heap.size ≤ k
section
variable {w wr w1 : World} {e : TypeId} {v v1 : Value} {xs us : List Value} {n : Nat}
theorem Nw.nil (w : World) (e : TypeId) : Nw w w e (.slice none 0 0) [] := ⟨World.ownsRow_nil _ _ _ _, Chg.refl _ _, fun k hk => by cases hk⟩
theorem Nw.app (h : Nw w wr e v xs) (ho : Own w1 e 1 v1 n (xs ++ us)) (hc : Chg wr w1 (blkOf v)) (hf : ∀ k, blkOf v1 k → blkOf v k ∨ wr.heap.size ≤ k) (hn : n = (xs ++ us).length) : Nw w w1 e v1 (xs ++ us) := by
  subst hn
  exact ⟨ho, h.2.1.trans hc (fun i hi hb => by have := h.2.2 i hb; omega), fun k hk => by
    rcases hf k hk with h1 | h1
    · exact h.2.2 k h1
    · exact Nat.le_trans h.2.1.size h1⟩
theorem Nw.kept (h : Nw w wr e v xs) (hc : Chg wr w1 nob) : Nw w w1 e v xs := ⟨h.1.kept hc (fun _ _ => id), h.2.1.trans hc (fun _ _ x => x), h.2.2⟩
theorem Nw.newer (h : Nw w wr e v xs) {w0 : World} (hc : Chg w0 w nob) : Nw w0 wr e v xs := ⟨h.1, hc.trans h.2.1 (fun _ _ x => x), fun k hk => Nat.le_trans hc.size (h.2.2 k hk)⟩
theorem Nw.form (h : Nw w wr e v xs) : ∃ a c, v = .slice a xs.length c ∧ xs.length ≤ c ∧ ∀ x, a = some x → ∃ g, x = ⟨g, 0, none⟩ := by
  obtain ⟨a, c, e, h1, _, _, h2⟩ := h.1.form
  exact ⟨a, c, e, h1, h2⟩
end
/-- Bytes of one's own lie apart from what is no row of bytes. -/
theorem Own.apart {w w' : World} {v : Value} {n : Nat} {xs : List Value} {F : Nat → Prop} (h : Own w 5 1 v n xs) (hc : Chg w w' F) (hF : ∀ k, F k → ∃ t cs, Blk w k t cs ∧ 5 ≠ t) : Own w' 5 1 v n xs :=
  h.kept hc fun k hk hf => by
    obtain ⟨t, cs, hb, hne⟩ := hF k hf
    exact h.ne hb hne hk
end Go.Proofs.YtmbdpcamhkdkmaaGreatDoor

namespace Go.Proofs.YtmbdpcamhkdkmaaGreatDoor
open Go
set_option linter.unusedVariables false

section
variable {P : Program} {ops : Array Oper} {Q : Exit → Act → List Frame → World → Prop} {a : Act} {cs : List Frame} {w : World}
theorem wpS_region_draw {id : Nat} (h : ∀ t, wpOpsS P ops Q (Region.schedule (P.follows .mixedOrders) ops t) a cs { w with drawn := w.drawn + 1 }) : (Code.region id ops true).wpS P Q a cs w :=
  fun b k hb hr => let ⟨e, a', cs', w', q, r⟩ := wp_opsS _ a cs _ (h _) b k hb hr; ⟨e, a', cs', w', q, .of_steps (.one step_region_draw) r⟩
/-- All orders that a region may draw. -/
def ordersOf (md : Region.Mode) (ops : Array Oper) : Nat → Array Bool → List (List Nat)
  | 0, _ => [[]]
  | f + 1, listed => match Region.ready md ops listed with
    | [] => [[]]
    | r => r.flatMap fun i => (ordersOf md ops f (listed.setIfInBounds i true)).map (i :: ·)
theorem linearise_mem (md : Region.Mode) (ops : Array Oper) : ∀ (f t : Nat) (listed : Array Bool), Region.linearise.go md ops f t listed [] ∈ ordersOf md ops f listed
  | 0, t, listed => by simp [Region.linearise.go, ordersOf]
  | f + 1, t, listed => by
    simp only [Region.linearise.go]
    change (match (Region.ready md ops listed)[t % (Region.ready md ops listed).length]? with
      | some i => Region.linearise.go md ops f (t / (Region.ready md ops listed).length) (listed.setIfInBounds i true) [i]
      | none => [].reverse) ∈ _
    cases hi : (Region.ready md ops listed)[t % (Region.ready md ops listed).length]? with
    | none =>
      have hnil : Region.ready md ops listed = [] := by
        cases hr : Region.ready md ops listed with
        | nil => rfl
        | cons x xs =>
          rw [hr] at hi
          have hlt : t % (x :: xs).length < (x :: xs).length := Nat.mod_lt _ (by simp)
          simp at hi
          simp at hlt
          omega
      simp [ordersOf, hnil]
    | some i =>
      simp only []
      rw [linearise_go_acc, List.reverse_singleton, List.singleton_append]
      have hm := List.mem_of_getElem? hi
      have ih := linearise_mem md ops f (t / (Region.ready md ops listed).length) (listed.setIfInBounds i true)
      rw [ordersOf]
      cases hr : Region.ready md ops listed with
      | nil => rw [hr] at hm; cases hm
      | cons x xs =>
        rw [hr] at hm ih
        exact List.mem_flatMap.2 ⟨i, hm, List.mem_map.2 ⟨_, ih, rfl⟩⟩
theorem wpS_orders {id : Nat} (L : List (List Nat)) (hm : P.follows .mixedOrders = true) (hL : ordersOf .any ops ops.size (Array.replicate ops.size false) = L)
    (h : ∀ σ ∈ L, wpOpsS P ops Q σ a cs { w with drawn := w.drawn + 1 }) : (Code.region id ops true).wpS P Q a cs w :=
  wpS_region_draw fun t => by
    simp only [Region.schedule, hm, Bool.true_or, if_true]
    exact h _ (hL ▸ linearise_mem .any ops ops.size t _)
end
end Go.Proofs.YtmbdpcamhkdkmaaGreatDoor

namespace Go.Proofs.YtmbdpcamhkdkmaaGreatDoor
open Go.RowKit
set_option linter.unusedVariables false
set_option linter.unusedSimpArgs false

section
variable {w0 w : World} {a : Act} {K : Act → World → Prop} {Q : Exit → Act → World → Prop} {o : Oper} {ops : Array Oper}
/-- Bytes read put behind bytes of one's own. -/
theorem wp_bxr (s x : Operand) (ho : o.op = .call { callee := .builtin .append, args := #[s, x], argTypes := #[25, 25] })
    (v : Value) (L : List Int) (hs : a.eval s = v) (hB : Bx w0 w v L) (u : Value) (M : List Int) (hx : a.eval x = u) (hM : Rd w 1 u M.length (bytesV M)) (hn : NilOk u) (hl : L.length + M.length ≤ 140737488355328)
    (h : ∀ v' w', Bx w0 w' v' (L ++ M) → Chg w w' (blkOf v) → K (a.put o.dst v') w') : o.wp Tryz.prog a w K Q := by
  obtain ⟨ao, co, rfl, _⟩ := hB.1.form
  obtain ⟨av, cv, rfl, _⟩ := hM.form
  refine wp_app s x 25 ho 5 (.int .u8 0) 1 1 i_byte u_bytes rfl (by decide) (.slice ao L.length co) L.length _ hs hB.1 av M.length cv (bytesV M) hx (hM.nil0 hn) (by simp [bytesV]) hM.news (bytes_one M) (by unfold maxLen; omega) (by omega) ?_
  intro v' w' ho' hc' hf'
  exact h v' w' (hB.pushs (ys := M) ho' hc' hf' rfl (by simp)) hc'
theorem wpList_bxr {rest : List Oper} (hgd : o.guard = none) (s x : Operand) (ho : o.op = .call { callee := .builtin .append, args := #[s, x], argTypes := #[25, 25] })
    (v : Value) (L : List Int) (hs : a.eval s = v) (hB : Bx w0 w v L) (u : Value) (M : List Int) (hx : a.eval x = u) (hM : Rd w 1 u M.length (bytesV M)) (hn : NilOk u) (hl : L.length + M.length ≤ 140737488355328)
    (h : ∀ v' w', Bx w0 w' v' (L ++ M) → Chg w w' (blkOf v) → wpList Tryz.prog ops Q rest (a.put o.dst v') w') : wpList Tryz.prog ops Q (o :: rest) a w :=
  wpList_plain hgd fun _ hK => wp_bxr s x ho v L hs hB u M hx hM hn hl fun v' w' h1 h2 => hK _ _ (h v' w' h1 h2)
end
/-- Bytes just made. -/
theorem Bx.nil (w : World) : Bx w w (.slice none 0 0) [] := ⟨World.ownsRow_nil _ _ _ _, Chg.refl _ _, fun k hk => by cases hk⟩
theorem Bx.lit0 (w : World) : Bx w (w.alloc (.cells #[] 5)) (.slice (some ⟨w.heap.size, 0, none⟩) 0 0) [] :=
  ⟨Own.lit w 5 #[] (by decide), (Chg.refl w nob).alloc _, fun k hk => by cases hk; exact Nat.le_refl _⟩
theorem Bx.alloc {w wr : World} {v : Value} {L : List Int} (h : Bx w wr v L) (o : Obj) : Bx w (wr.alloc o) v L :=
  ⟨h.1.kept ((Chg.refl wr nob).alloc o) (fun _ _ => id), h.2.1.alloc o, h.2.2⟩
theorem Bx.nilOk {w wr : World} {v : Value} {L : List Int} (h : Bx w wr v L) : NilOk v := h.1.nilOk
theorem Rd.lit (w : World) (L : List Int) : Rd (w.alloc (.cells (bytesV L).toArray 5)) 1 (.slice (some ⟨w.heap.size, 0, none⟩) L.length L.length) L.length (bytesV L) := by
  have h := Rd.made w 5 (bytesV L).toArray (size := 1) (n := L.length) (c := L.length) (by simp [bytesV]) (Nat.le_refl _)
  exact h
theorem nilOk_some (a : Addr) (n c : Nat) : NilOk (.slice (some a) n c) := fun _ _ h => by cases h
/-- Bytes of one's own since w are bytes of one's own since an earlier world. -/
theorem Bx.before {w w1 wr : World} {v : Value} {L : List Int} (h : Bx w1 wr v L) (hc : Chg w w1 nob) : Bx w wr v L :=
  ⟨h.1, hc.trans h.2.1 (fun _ _ x => x), fun k hk => Nat.le_trans hc.size (h.2.2 k hk)⟩
set_option maxRecDepth 100000 in
theorem eql_nil (w : World) (a : Option Addr) (n c : Nat) : (binOp .eql 25 (.slice a n c) (.slice none 0 0)).run Tryz.prog w = .ok (.bool a.isNone) w := by
  cases a <;> rfl
set_option maxRecDepth 100000 in
set_option maxHeartbeats 2000000 in
theorem clone_any (w : World) (va : Value) (xs : List Int) (ha : Rd w 1 va xs.length (bytesV xs)) (hn : NilOk va) (hl : xs.length ≤ 1000000) :
    Calls Tryz.prog 49 #[va] w fun e w' => ∃ v, e = .returned v ∧ Bx w w' v xs := by
  obtain ⟨ao, cap, rfl, hc, hlen⟩ := ha.form
  have h0 := ha.nil0 hn
  have HA := Lib.hid ha
  have HN := Lib.hid hn
  clear ha hn
  cases ao with
  | none =>
    obtain ⟨h1, h2⟩ := h0 rfl
    obtain rfl : xs = [] := List.length_eq_zero_iff.1 h1
    subst h2
    have hq := eql_nil w none 0 0
    go_enter Tryz.func49, Tryz.ntmps49
    go_wp2
    go_ret
    exact ⟨_, rfl, Bx.nil w⟩
  | some ad =>
    clear h0
    have hq := eql_nil w (some ad) xs.length cap
    go_enter Tryz.func49, Tryz.ntmps49
    go_wp2_with (at_builtin; refine wpList_bxr rfl (.tmp 5) (.tmp 6) rfl _ [] rfl (Bx.lit0 w) _ xs rfl (HA.out.alloc _) HN.out (by simp; omega) ?_)
    intro v5 w5 hb5 _
    have HB5 := Lib.hid hb5
    clear hb5
    go_wp2
    go_ret
    exact ⟨_, rfl, HB5.out⟩
set_option maxRecDepth 100000 in
set_option maxHeartbeats 2000000 in
theorem clone_big (w : World) (va : Value) (xs : List Int) (ha : Rd w 1 va xs.length (bytesV xs)) (hn : NilOk va) (hl : xs.length ≤ 140737488351232) :
    Calls Tryz.prog 49 #[va] w fun e w' => ∃ v, e = .returned v ∧ Bx w w' v xs := by
  obtain ⟨ao, cap, rfl, hc, hlen⟩ := ha.form
  have h0 := ha.nil0 hn
  have HA := Lib.hid ha
  have HN := Lib.hid hn
  clear ha hn
  cases ao with
  | none =>
    obtain ⟨h1, h2⟩ := h0 rfl
    obtain rfl : xs = [] := List.length_eq_zero_iff.1 h1
    subst h2
    have hq := eql_nil w none 0 0
    go_enter Tryz.func49, Tryz.ntmps49
    go_wp2
    go_ret
    exact ⟨_, rfl, Bx.nil w⟩
  | some ad =>
    clear h0
    have hq := eql_nil w (some ad) xs.length cap
    go_enter Tryz.func49, Tryz.ntmps49
    go_wp2_with (at_builtin; refine wpList_bxr rfl (.tmp 5) (.tmp 6) rfl _ [] rfl (Bx.lit0 w) _ xs rfl (HA.out.alloc _) HN.out (by simp; omega) ?_)
    intro v5 w5 hb5 _
    have HB5 := Lib.hid hb5
    clear hb5
    go_wp2
    go_ret
    exact ⟨_, rfl, HB5.out⟩
end Go.Proofs.YtmbdpcamhkdkmaaGreatDoor
