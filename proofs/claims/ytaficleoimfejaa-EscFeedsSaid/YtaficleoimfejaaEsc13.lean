/-
  Chapter 8: rows of bytes; what a law does with a parser.
-/
import Derived.Test.YtaficleoimfejaaEsc12
namespace Go.Proofs.Ytaficleoimfejaa
open Go.RowKit
set_option linter.unusedVariables false
set_option linter.unusedSimpArgs false

def bytesV (l : List Int) : List Value := l.map (Value.int .u8)
theorem u_bytes : Try.prog.underlying 44 = some (.slice 5) := by kernel_rfl
theorem rd_string (w : World) (v : Value) (xs : List Int) (h : Rd w 1 v xs.length (bytesV xs)) : (convert 44 9 v).run Try.prog w = .ok (.string (strOfNums xs)) w := by
  obtain ⟨ao, cap, rfl, h1, h2, h3⟩ := h
  cases xs with
  | nil =>
    cases ao with
    | none => exact run_convert_bytes_nil w 44 5 u_bytes (by kernel_rfl) _ _ 9 (by kernel_rfl)
    | some a =>
      rw [run_convert_bytes_string w 44 9 5 _ _ cap u_bytes (by kernel_rfl) (by kernel_rfl), run_bytesToString w a ([] : List Int).length cap [] rfl]
      rfl
  | cons x t =>
    obtain ⟨b, o, rfl, _⟩ := h3 0 _ rfl
    refine run_convert_bytes_arg w 44 5 u_bytes (by kernel_rfl) b o _ cap (x :: t) rfl (fun i hi => ?_) 9 (by kernel_rfl)
    obtain ⟨b', o', h4, h5⟩ := h3 i (.int .u8 ((x :: t).getD i 0)) (by unfold bytesV; rw [List.getElem?_map, List.getElem?_eq_getElem hi]; simp [List.getD, List.getElem?_eq_getElem hi])
    cases h4
    exact h5
theorem Rd.lt {w : World} {size : Nat} {v : Value} {n : Nat} {xs : List Value} (h : Rd w size v n xs) (hx : xs ≠ []) {k : Nat} (hk : blkOf v k) : k < w.heap.size := by
  obtain ⟨ao, cap, rfl, h1, h2, h3⟩ := h
  cases xs with
  | nil => exact absurd rfl hx
  | cons u us =>
    obtain ⟨b, o, rfl, hc⟩ := h3 0 u rfl
    cases hk
    exact World.block_lt_of_cell? w _ hc
theorem Rd.news {w : World} {ao : Option Addr} {n cap : Nat} {xs : List Value} (hr : Rd w 1 (.slice ao n cap) n xs) : ∀ a, ao = some a → ∀ j u, xs[j]? = some u → w.cell? (a.add j) = some u := fun a ha j u hu => by
  obtain ⟨b', o', h1, h2⟩ := hr.cell hu
  rw [ha] at h1
  cases h1
  rw [Addr.add_lit]; exact h2
theorem Rd.nil0 {w : World} {ao : Option Addr} {cap : Nat} {k : IntKind} {xs : List Int} (hr : Rd w 1 (.slice ao xs.length cap) xs.length (xs.map (Value.int k))) (hn : ao = none → cap = 0) : ao = none → xs.length = 0 ∧ cap = 0 := fun h => by
  cases xs with
  | nil => exact ⟨rfl, hn h⟩
  | cons x t =>
    obtain ⟨b, o, h1, _⟩ := hr.cell (j := 0) (u := .int k x) rfl
    rw [h] at h1; cases h1
theorem oneV (k : IntKind) (ys : List Int) : ∀ u ∈ ys.map (Value.int k), u.oneCell' = true := fun u hu => by obtain ⟨x, _, rfl⟩ := List.mem_map.1 hu; rfl
theorem fill_set (t : List Int) {k : Nat} (h : k < t.length) : (t.take k ++ List.replicate (t.length - k) 0).set k (t.getD k 0) = t.take (k + 1) ++ List.replicate (t.length - (k + 1)) 0 := by
  rw [List.set_append_right _ _ (by simp; omega), List.length_take, Nat.min_eq_left (Nat.le_of_lt h), Nat.sub_self, show t.length - k = (t.length - (k + 1)) + 1 by omega, List.replicate_succ, List.set_cons_zero, take_snoc h 0, List.append_assoc]
  rfl
theorem PH.before {w0 w1 w : World} {p : Nat} {s : PS} {n : Nat} {F : Nat → Prop} (h : PH w1 w p s n F) (hc : Chg w0 w1 nob) : PH w0 w p s n F :=
  ⟨h.out, h.ok, h.pr, hc.trans h.chg (fun _ _ h => h), fun k hk => Nat.le_trans hc.size (h.own k hk)⟩
theorem wpList_makeF {P : Program} (w : World) {ops : Array Oper} {rest : List Oper} {o : Oper} {a : Act} {Q : Exit → Act → World → Prop}
    (hg : o.guard = none) (l c : Operand) (t : TypeId) (hop : o.op = Op.makeSlice t l c)
    (e : TypeId) (z : Value) (size bytes : Nat) (hi : (P.info? e).map (fun i => (i.zero, i.size, i.bytes)) = some (some z, size, bytes)) (h1 : P.underlying t = some (.slice e))
    (kl kc : IntKind) (n : Nat) (hl : a.eval l = .int kl n) (hc : a.eval c = .int kc n) (b2 : bytes * n ≤ 281474976710656) (b3 : n ≤ maxLen)
    (hK : ∀ w', Own w' e size (.slice (some ⟨w.heap.size, 0, none⟩) n n) n (madeCells z.cells (n * size)).toList → Chg w w' nob → wpList P ops Q rest (a.put o.dst (.slice (some ⟨w.heap.size, 0, none⟩) n n)) w') :
    wpList P ops Q (o :: rest) a w := by
  refine wpList_plain hg fun K hK' => ?_
  obtain ⟨i, h2, h3, h4, h5⟩ := info_parts hi
  obtain ⟨w', hrun, r1, r2⟩ := run_make_full (P := P) w 0 t e i z size h1 h2 h3 h4 kl kc n (by rw [h5]; exact b2) b3 (Nat.zero_le _)
  unfold Oper.wp
  simp [execOp, hop, hl, hc, hrun, Result.andThen]
  exact hK' _ _ (hK w' r1 ((Chg.ofGrown r2).mono (fun k _ h => by cases h)))
theorem made_bytes (n : Nat) : (madeCells #[Value.int .u8 0] n).toList = bytesV (List.replicate n 0) := by
  rw [toList_madeCells_one]; simp [bytesV]
theorem state_is {w : World} {p : Nat} {s : PS} {F G : Nat → Prop} (h : PR w p s F G) (st : Int) (hs : s.st = st) : Calls Try.prog 13 #[.pointer (some ⟨p, 0, none⟩)] w fun e w' => e = .returned (.int .i64 st) ∧ w' = w := by
  subst hs; exact state_any h
theorem run_end2 (b : Bool) (t : List Int) (o : List Ev) : runS (outE ⟨4, [-1], false, 0, 0, false, t, o⟩) (endL b) = ⟨0, [-1], false, 0, 0, false, [], [⟨5, 0, [], 0, 0, 0, runesBytes t⟩]⟩ := run_end b t []
theorem wraps_u8 (x : Int) (h0 : 0 ≤ x) (h1 : x ≤ 255) : IntKind.u8.wrap x = x := by simp [IntKind.wrap, IntKind.bits, IntKind.signed]; omega
theorem nilOf {k : IntKind} {w : World} {a : Option Addr} {len cap : Nat} {zs : List Int} (h : (a = none ∧ len = 0 ∧ cap = 0 ∧ zs = []) ∨ ∃ x, a = some x ∧ len ≤ cap ∧ cap ≤ maxLen ∧ zs.length = cap ∧ (∀ i, i < zs.length → w.cell? (x.add i) = some (.int k (zs.getD i 0))) ∧ ∀ n ∈ zs, (Lit.int k n).wf = true) : a = none → cap = 0 := fun h0 => by
  rcases h with ⟨_, _, h, _⟩ | ⟨x, h, _⟩
  · exact h
  · rw [h0] at h; cases h
end Go.Proofs.Ytaficleoimfejaa
