
/-
  bytes.Clone; bytes put behind bytes of one's own.
-/
import Derived.Test.YtmekakecdgblaaaNil
namespace Go.Proofs.Ytmekakecdgblaaa
open Go.RowKit
set_option linter.unusedVariables false
set_option linter.unusedSimpArgs false

section
variable {w0 w : World} {a : Act} {K : Act → World → Prop} {Q : Exit → Act → World → Prop} {o : Oper} {ops : Array Oper}
/-- Bytes read put behind bytes of one's own. -/
theorem wp_bxr (s x : Operand) (ho : o.op = .call { callee := .builtin .append, args := #[s, x], argTypes := #[23, 23] })
    (v : Value) (L : List Int) (hs : a.eval s = v) (hB : Bx w0 w v L) (u : Value) (M : List Int) (hx : a.eval x = u) (hM : Rd w 1 u M.length (bytesV M)) (hn : NilOk u) (hl : L.length + M.length ≤ 140737488355328)
    (h : ∀ v' w', Bx w0 w' v' (L ++ M) → Chg w w' (blkOf v) → K (a.put o.dst v') w') : o.wp Try.prog a w K Q := by
  obtain ⟨ao, co, rfl, _⟩ := hB.1.form
  obtain ⟨av, cv, rfl, _⟩ := hM.form
  refine wp_app s x 23 ho 5 (.int .u8 0) 1 1 i_byte u_bytes rfl (by decide) (.slice ao L.length co) L.length _ hs hB.1 av M.length cv (bytesV M) hx (hM.nil0 hn) (by simp [bytesV]) hM.news (bytes_one M) (by unfold maxLen; omega) (by omega) ?_
  intro v' w' ho' hc' hf'
  exact h v' w' (hB.pushs (ys := M) ho' hc' hf' rfl (by simp)) hc'
theorem wpList_bxr {rest : List Oper} (hgd : o.guard = none) (s x : Operand) (ho : o.op = .call { callee := .builtin .append, args := #[s, x], argTypes := #[23, 23] })
    (v : Value) (L : List Int) (hs : a.eval s = v) (hB : Bx w0 w v L) (u : Value) (M : List Int) (hx : a.eval x = u) (hM : Rd w 1 u M.length (bytesV M)) (hn : NilOk u) (hl : L.length + M.length ≤ 140737488355328)
    (h : ∀ v' w', Bx w0 w' v' (L ++ M) → Chg w w' (blkOf v) → wpList Try.prog ops Q rest (a.put o.dst v') w') : wpList Try.prog ops Q (o :: rest) a w :=
  wpList_plain hgd fun _ hK => wp_bxr s x ho v L hs hB u M hx hM hn hl fun v' w' h1 h2 => hK _ _ (h v' w' h1 h2)
end
/-- Bytes just made. -/
theorem Bx.nil (w : World) : Bx w w (.slice none 0 0) [] := ⟨World.ownsRow_nil _ _ _ _, Chg.refl _ _, fun k hk => by cases hk⟩
theorem Bx.lit0 (w : World) : Bx w (w.alloc (.cells #[] 5)) (.slice (some ⟨w.heap.size, 0, none⟩) 0 0) [] :=
  ⟨Own.lit w 5 #[] (by decide), (Chg.refl w nob).alloc _, fun k hk => by cases hk; exact Nat.le_refl _⟩
theorem Bx.alloc {w wr : World} {v : Value} {L : List Int} (h : Bx w wr v L) (o : Obj) : Bx w (wr.alloc o) v L :=
  ⟨h.1.kept ((Chg.refl wr nob).alloc o) (fun _ _ => id), h.2.1.alloc o, h.2.2⟩
theorem Bx.nilOk {w wr : World} {v : Value} {L : List Int} (h : Bx w wr v L) : NilOk v := h.1.nilOk
theorem Rd.lit (w : World) (L : List Int) : Rd (w.alloc (.cells (bytesV L).toArray 5)) 1 (.slice (some ⟨w.heap.size, 0, none⟩) L.length L.length) L.length (bytesV L) := by
  have h := Rd.made w 5 (bytesV L).toArray (size := 1) (n := L.length) (c := L.length) (by simp [bytesV]) (Nat.le_refl _)
  exact h
theorem nilOk_some (a : Addr) (n c : Nat) : NilOk (.slice (some a) n c) := fun _ _ h => by cases h
/-- Bytes of one's own since w are bytes of one's own since an earlier world. -/
theorem Bx.before {w w1 wr : World} {v : Value} {L : List Int} (h : Bx w1 wr v L) (hc : Chg w w1 nob) : Bx w wr v L :=
  ⟨h.1, hc.trans h.2.1 (fun _ _ x => x), fun k hk => Nat.le_trans hc.size (h.2.2 k hk)⟩
set_option maxRecDepth 100000 in
theorem eql_nil (w : World) (a : Option Addr) (n c : Nat) : (binOp .eql 23 (.slice a n c) (.slice none 0 0)).run Try.prog w = .ok (.bool a.isNone) w := by
  cases a <;> rfl
set_option maxRecDepth 100000 in
set_option maxHeartbeats 2000000 in
theorem clone_any (w : World) (va : Value) (xs : List Int) (ha : Rd w 1 va xs.length (bytesV xs)) (hn : NilOk va) (hl : xs.length ≤ 1000000) :
    Calls Try.prog 33 #[va] w fun e w' => ∃ v, e = .returned v ∧ Bx w w' v xs := by
  obtain ⟨ao, cap, rfl, hc, hlen⟩ := ha.form
  have h0 := ha.nil0 hn
  have HA := Lib.hid ha
  have HN := Lib.hid hn
  clear ha hn
  cases ao with
  | none =>
    obtain ⟨h1, h2⟩ := h0 rfl
    obtain rfl : xs = [] := List.length_eq_zero_iff.1 h1
    subst h2
    have hq := eql_nil w none 0 0
    go_enter Try.func33, Try.ntmps33
    go_wp2
    go_ret
    exact ⟨_, rfl, Bx.nil w⟩
  | some ad =>
    clear h0
    have hq := eql_nil w (some ad) xs.length cap
    go_enter Try.func33, Try.ntmps33
    go_wp2_with (at_builtin; refine wpList_bxr rfl (.tmp 5) (.tmp 6) rfl _ [] rfl (Bx.lit0 w) _ xs rfl (HA.out.alloc _) HN.out (by simp; omega) ?_)
    intro v5 w5 hb5 _
    have HB5 := Lib.hid hb5
    clear hb5
    go_wp2
    go_ret
    exact ⟨_, rfl, HB5.out⟩
set_option maxRecDepth 100000 in
set_option maxHeartbeats 2000000 in
theorem clone_big (w : World) (va : Value) (xs : List Int) (ha : Rd w 1 va xs.length (bytesV xs)) (hn : NilOk va) (hl : xs.length ≤ 140737488351232) :
    Calls Try.prog 33 #[va] w fun e w' => ∃ v, e = .returned v ∧ Bx w w' v xs := by
  obtain ⟨ao, cap, rfl, hc, hlen⟩ := ha.form
  have h0 := ha.nil0 hn
  have HA := Lib.hid ha
  have HN := Lib.hid hn
  clear ha hn
  cases ao with
  | none =>
    obtain ⟨h1, h2⟩ := h0 rfl
    obtain rfl : xs = [] := List.length_eq_zero_iff.1 h1
    subst h2
    have hq := eql_nil w none 0 0
    go_enter Try.func33, Try.ntmps33
    go_wp2
    go_ret
    exact ⟨_, rfl, Bx.nil w⟩
  | some ad =>
    clear h0
    have hq := eql_nil w (some ad) xs.length cap
    go_enter Try.func33, Try.ntmps33
    go_wp2_with (at_builtin; refine wpList_bxr rfl (.tmp 5) (.tmp 6) rfl _ [] rfl (Bx.lit0 w) _ xs rfl (HA.out.alloc _) HN.out (by simp; omega) ?_)
    intro v5 w5 hb5 _
    have HB5 := Lib.hid hb5
    clear hb5
    go_wp2
    go_ret
    exact ⟨_, rfl, HB5.out⟩
end Go.Proofs.Ytmekakecdgblaaa
