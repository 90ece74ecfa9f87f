/-
  Numbers as bytes: wire.Var, and the document's Var.
  Numbers read from the front, in plain Lean: what was written comes back, and what is read was so written.
  Bytes of the call's own: bytes, or a string's, put behind them.
  Slices of bytes that are nil only with no room; their copies.
-/
import Derived.Test.YtmbdpcamhkdkmaaGreatDoorMg5
import Derived.Deep.DeepCutAuto
import Derived.Lib.EndianBits
import Derived.Lib.AppendStr
namespace Go.Proofs.YtmbdpcamhkdkmaaGreatDoor
open Go.RowKit
set_option linter.unusedVariables false
set_option linter.unusedSimpArgs false

/-- A number's bytes. -/
def varL (n : Nat) : List Int := if h : n < 128 then [(n : Int)] else (128 + ((n % 128 : Nat) : Int)) :: varL (n / 128)
decreasing_by omega
theorem varL_lt {n : Nat} (h : n < 128) : varL n = [(n : Int)] := by rw [varL, dif_pos h]
theorem varL_ge {n : Nat} (h : ¬ n < 128) : varL n = (128 + ((n % 128 : Nat) : Int)) :: varL (n / 128) := by rw [varL, dif_neg h]
theorem varL_len : ∀ (k n : Nat), n < 128 ^ (k + 1) → (varL n).length ≤ k + 1
  | 0, n, h => by rw [varL_lt (by simpa using h)]; simp
  | k + 1, n, h => by
    by_cases h1 : n < 128
    · rw [varL_lt h1]; simp
    · rw [varL_ge h1, List.length_cons]
      have := varL_len k (n / 128) (by rw [Nat.pow_succ] at h; omega)
      omega
set_option maxRecDepth 100000 in
theorem or_high : ∀ k : Fin 256, bits .or .u8 ((k.val : Nat) : Int) 128 = 128 + ((k.val % 128 : Nat) : Int) := by decide
theorem or128 (n : Nat) : bits .or .u8 ((n : Int) % 256) 128 = 128 + ((n % 128 : Nat) : Int) := by
  have h := or_high ⟨n % 256, by omega⟩
  simp only at h
  rw [show ((n % 256 : Nat) : Int) = (n : Int) % 256 by omega, Nat.mod_mod_of_dvd n (by decide)] at h
  exact h
set_option maxRecDepth 100000 in
set_option maxHeartbeats 4000000 in
theorem var_any (w : World) (n : Nat) (hn : n < 18446744073709551616) : Calls Tryz.prog 44 #[.int .u64 n] w fun e w' => ∃ v, e = .returned v ∧ Bx w w' v (varL n) := by
  go_enter Tryz.func44, Tryz.ntmps44
  go_wp2
  go_loopw [0, 3] (fun nv bv wr => ∃ (m : Nat) (L : List Int), m ≤ n ∧ nv = .int .u64 m ∧ Hid (L ++ varL m = varL n) ∧ Hid (Bx w wr bv L)) (fun nv _ _ => (intOf nv).toNat)
  case atStart => exact ⟨n, [], Nat.le_refl _, rfl, Lib.hid rfl, Lib.hid ⟨World.ownsRow_nil _ _ _ _, Chg.refl _ _, fun k hk => by cases hk⟩⟩
  case round =>
    obtain ⟨m, L, hm, rfl, HL, HB⟩ := hrel
    have hll : L.length ≤ 10 := by
      have h1 := congrArg List.length HL.out
      rw [List.length_append] at h1
      have h2 := varL_len 9 n (by omega)
      omega
    obtain ⟨ao, co, rfl, _⟩ := HB.out.1.form
    by_cases h : m < 128
    · have hi : ¬ (128 : Int) ≤ (m : Int) := by omega
      have hw : IntKind.u8.wrap (m : Int) = (m : Int) := by rw [wraps_u8']; omega
      rw [varL_lt h] at HL
      go_wp2_with (at_builtin; refine wpList_push rfl (.tmp 14) (.tmp 17) 25 rfl 5 (.int .u8 0) 1 1 i_byte u_bytes rfl (by decide) (.slice ao L.length co) L.length _ rfl HB.out.1 1 1 rfl rfl rfl (by unfold maxLen; omega) (by omega) ?_)
      intro v1 w1 ho hch hfo
      have hb := HB.out.pushs (ys := [(m : Int)]) ho hch hfo rfl (by simp)
      have HB1 := Lib.hid hb
      clear hb ho hch hfo
      go_wp2
      go_ret
      exact ⟨_, rfl, by rw [← HL.out]; exact HB1.out⟩
    · have hi : (128 : Int) ≤ (m : Int) := by omega
      have hw : IntKind.u8.wrap (m : Int) = ((m % 256 : Nat) : Int) := wraps_u8' m
      have ho8 := or128 m
      rw [varL_ge h] at HL
      go_wp2_with (at_builtin; refine wpList_push rfl (.tmp 8) (.tmp 12) 25 rfl 5 (.int .u8 0) 1 1 i_byte u_bytes rfl (by decide) (.slice ao L.length co) L.length _ rfl HB.out.1 1 1 rfl rfl rfl (by unfold maxLen; omega) (by omega) ?_)
      intro v1 w1 ho hch hfo
      have hb := HB.out.pushs (ys := [128 + ((m % 128 : Nat) : Int)]) ho hch hfo (by simp [bytesV]) (by simp)
      obtain ⟨a1, c1, rfl, _⟩ := ho.form
      have HB1 := Lib.hid hb
      clear hb ho hch hfo ho8
      go_wp2
      go_roundw
      case rel => exact ⟨m / 128, L ++ [128 + ((m % 128 : Nat) : Int)], by omega, by congr 1, Lib.hid (by rw [List.append_assoc]; exact HL.out), HB1⟩
      case measure => simp [intOf]; omega
theorem varL_byte (n : Nat) : ∀ x ∈ varL n, 0 ≤ x ∧ x ≤ 255 := by
  intro x hx
  by_cases h : n < 128
  · rw [varL_lt h, List.mem_singleton] at hx; omega
  · rw [varL_ge h] at hx
    rcases List.mem_cons.1 hx with hx | hx
    · omega
    · exact varL_byte (n / 128) x hx
termination_by n
decreasing_by omega
theorem wraps_u64 (n : Int) (h₀ : 0 ≤ n) (h₁ : n < 2 ^ 64) : IntKind.u64.wrap n = n := by
  simp only [IntKind.wrap, IntKind.bits, IntKind.signed]; simp; omega
theorem u64_and127 (x : Int) (h₀ : 0 ≤ x) (h₁ : x < 18446744073709551616) : bits .and .u64 x 127 = x % 128 := bits_mask .u64 64 (by decide) wraps_u64 7 (by decide) x h₀ (by omega)
set_option maxRecDepth 100000 in
theorem or_low : ∀ k : Fin 128, bits .or .u64 ((k.val : Nat) : Int) 128 = 128 + ((k.val : Nat) : Int) := by decide
theorem u64_or128 (n : Nat) : bits .or .u64 ((n : Int) % 128) 128 = 128 + ((n % 128 : Nat) : Int) := by
  have h := or_low ⟨n % 128, by omega⟩
  simp only at h
  rw [show ((n % 128 : Nat) : Int) = (n : Int) % 128 by omega] at h ⊢
  exact h
set_option maxRecDepth 100000 in
set_option maxHeartbeats 4000000 in
theorem refvar_any (w : World) (n : Nat) (hn : n < 18446744073709551616) : Calls Tryz.prog 48 #[.int .u64 n] w fun e w' => ∃ v, e = .returned v ∧ Bx w w' v (varL n) := by
  go_enter Tryz.func48, Tryz.ntmps48
  go_wp2
  go_loopw [0, 3] (fun nv bv wr => ∃ (m : Nat) (L : List Int), m ≤ n ∧ nv = .int .u64 m ∧ Hid (L ++ varL m = varL n) ∧ Hid (Bx w wr bv L)) (fun nv _ _ => (intOf nv).toNat)
  case atStart => exact ⟨n, [], Nat.le_refl _, rfl, Lib.hid rfl, Lib.hid ⟨World.ownsRow_nil _ _ _ _, Chg.refl _ _, fun k hk => by cases hk⟩⟩
  case round =>
    obtain ⟨m, L, hm, rfl, HL, HB⟩ := hrel
    have hll : L.length ≤ 10 := by
      have h1 := congrArg List.length HL.out
      rw [List.length_append] at h1
      have h2 := varL_len 9 n (by omega)
      omega
    obtain ⟨ao, co, rfl, _⟩ := HB.out.1.form
    by_cases h : m < 128
    · have hi : ¬ (127 : Int) < (m : Int) := by omega
      have hw : IntKind.u8.wrap (m : Int) = (m : Int) := by rw [wraps_u8']; omega
      rw [varL_lt h] at HL
      go_wp2_with (at_builtin; refine wpList_push rfl (.tmp 15) (.tmp 18) 25 rfl 5 (.int .u8 0) 1 1 i_byte u_bytes rfl (by decide) (.slice ao L.length co) L.length _ rfl HB.out.1 1 1 rfl rfl rfl (by unfold maxLen; omega) (by omega) ?_)
      intro v1 w1 ho hch hfo
      have hb := HB.out.pushs (ys := [(m : Int)]) ho hch hfo rfl (by simp)
      have HB1 := Lib.hid hb
      clear hb ho hch hfo
      go_wp2
      go_ret
      exact ⟨_, rfl, by rw [← HL.out]; exact HB1.out⟩
    · have hi : (127 : Int) < (m : Int) := by omega
      have hm7 : bits .and .u64 (m : Int) 127 = (m : Int) % 128 := u64_and127 _ (by omega) (by omega)
      have ho8 := u64_or128 m
      have hw : IntKind.u8.wrap (128 + ((m % 128 : Nat) : Int)) = 128 + ((m % 128 : Nat) : Int) := by
        rw [show (128 + ((m % 128 : Nat) : Int)) = ((128 + m % 128 : Nat) : Int) by omega, wraps_u8']; omega
      rw [varL_ge h] at HL
      go_wp2_with (at_builtin; refine wpList_push rfl (.tmp 6) (.tmp 11) 25 rfl 5 (.int .u8 0) 1 1 i_byte u_bytes rfl (by decide) (.slice ao L.length co) L.length _ rfl HB.out.1 1 1 rfl rfl rfl (by unfold maxLen; omega) (by omega) ?_)
      intro v1 w1 ho hch hfo
      have hb := HB.out.pushs (ys := [128 + ((m % 128 : Nat) : Int)]) ho hch hfo (by first | rfl | simp [bytesV]) (by simp)
      obtain ⟨a1, c1, rfl, _⟩ := ho.form
      have HB1 := Lib.hid hb
      clear hb ho hch hfo ho8 hm7
      go_wp2
      go_roundw
      case rel => exact ⟨m / 128, L ++ [128 + ((m % 128 : Nat) : Int)], by omega, by congr 1, Lib.hid (by rw [List.append_assoc]; exact HL.out), HB1⟩
      case measure => simp [intOf]; omega
end Go.Proofs.YtmbdpcamhkdkmaaGreatDoor

namespace Go.Proofs.YtmbdpcamhkdkmaaGreatDoor
set_option linter.unusedVariables false
set_option linter.unusedSimpArgs false

/-- The number at the front (why not, the number, how many bytes it took): i bytes of it are read, they make acc. -/
def numG : Nat → Nat → Nat → List Int → Int × Nat × Nat
  | 0, _, _, _ => (2, 0, 0)
  | _ + 1, _, _, [] => (3, 0, 0)
  | f + 1, i, acc, c :: r => if (i = 9 ∧ 1 < c) ∨ (c = 0 ∧ 0 < i) then (2, 0, 0) else if c < 128 then (0, acc + c.toNat * 2 ^ (7 * i), i + 1) else numG f (i + 1) (acc + (c.toNat - 128) * 2 ^ (7 * i)) r
def numP (l : List Int) : Int × Nat × Nat := numG 10 0 0 l
theorem varL_pos' (n : Nat) : 1 ≤ (varL n).length := by
  rw [varL]
  split <;> simp
theorem numG_var : ∀ (f i acc n : Nat) (rest : List Int), f + i = 10 → n < 2 ^ (64 - 7 * i) → (0 < i → 0 < n) → i ≤ 9 → numG f i acc (varL n ++ rest) = (0, acc + n * 2 ^ (7 * i), i + (varL n).length) := by
  intro f
  induction f with
  | zero => intro i acc n rest h1 h2 h3 h4; omega
  | succ f ih =>
    intro i acc n rest h1 h2 h3 h4
    by_cases hn : n < 128
    · rw [varL_lt hn]
      simp only [List.cons_append, List.nil_append, numG, List.length_singleton]
      rw [if_neg, if_pos (by omega)]
      · simp
      · rintro (⟨rfl, h⟩ | ⟨h, h'⟩)
        · have : n < 2 := by simpa using h2
          omega
        · have := h3 h'
          omega
    · have hi : i ≤ 8 := by
        by_cases h9 : i = 9
        · subst h9
          have : n < 2 := by simpa using h2
          omega
        · omega
      rw [varL_ge hn]
      simp only [List.cons_append, numG, List.length_cons]
      rw [if_neg (by omega), if_neg (by omega), ih (i + 1) _ (n / 128) rest (by omega) ?_ (by omega) (by omega)]
      · have e : (128 + ((n % 128 : Nat) : Int)).toNat - 128 = n % 128 := by omega
        have h7 : 2 ^ (7 * (i + 1)) = 128 * 2 ^ (7 * i) := by rw [show 7 * (i + 1) = 7 + 7 * i by omega, Nat.pow_add]
        have e2 : (n % 128) * 2 ^ (7 * i) + n / 128 * (128 * 2 ^ (7 * i)) = n * 2 ^ (7 * i) := by
          rw [← Nat.mul_assoc, ← Nat.add_mul, show n % 128 + n / 128 * 128 = n by omega]
        rw [e, h7, Nat.add_assoc, e2, show i + 1 + (varL (n / 128)).length = i + ((varL (n / 128)).length + 1) by omega]
      · have h7 : 2 ^ (64 - 7 * i) = 128 * 2 ^ (64 - 7 * (i + 1)) := by rw [show 64 - 7 * i = 7 + (64 - 7 * (i + 1)) by omega, Nat.pow_add]
        rw [h7] at h2
        omega
/-- What was written comes back. -/
theorem numP_var {n : Nat} (h : n < 18446744073709551616) (rest : List Int) : numP (varL n ++ rest) = (0, n, (varL n).length) := by
  have h1 := numG_var 10 0 0 n rest rfl (by simpa using h) (by omega) (by omega)
  simpa [numP] using h1
theorem numG_back : ∀ (f i acc : Nat) (l : List Int) (v k : Nat), f + i = 10 → (∀ x ∈ l, 0 ≤ x ∧ x ≤ 255) → numG f i acc l = (0, v, k) → ∃ n, v = acc + n * 2 ^ (7 * i) ∧ n < 2 ^ (64 - 7 * i) ∧ (0 < i → 0 < n) ∧ l = varL n ++ l.drop (k - i) ∧ k = i + (varL n).length := by
  intro f
  induction f with
  | zero => intro i acc l v k h1 hb h; simp [numG] at h
  | succ f ih =>
    intro i acc l v k h1 hb h
    cases l with
    | nil => simp [numG] at h
    | cons c r =>
      have hc := hb c (List.mem_cons_self ..)
      simp only [numG] at h
      split at h
      · simp at h
      · rename_i hbad
        split at h
        · rename_i hs
          simp only [Prod.mk.injEq, true_and] at h
          obtain ⟨rfl, rfl⟩ := h
          have hlt : c.toNat < 128 := by omega
          refine ⟨c.toNat, rfl, ?_, by omega, ?_, ?_⟩
          · by_cases h9 : i = 9
            · subst h9
              have : c ≤ 1 := by omega
              simp
              omega
            · have : 2 ^ 7 ≤ 2 ^ (64 - 7 * i) := Nat.pow_le_pow_right (by decide) (by omega)
              omega
          · rw [varL_lt hlt, Nat.add_sub_cancel_left]
            simp
            omega
          · rw [varL_lt hlt]; rfl
        · rename_i hs
          have hi : i ≤ 8 := by omega
          obtain ⟨n, h2, h3, h4, h5, h6⟩ := ih (i + 1) _ r v k (by omega) (fun x hx => hb x (List.mem_cons_of_mem _ hx)) h
          have hn := h4 (by omega)
          have hbig : ¬ (c.toNat - 128) + 128 * n < 128 := by omega
          have h7 : 2 ^ (64 - 7 * i) = 128 * 2 ^ (64 - 7 * (i + 1)) := by rw [show 64 - 7 * i = 7 + (64 - 7 * (i + 1)) by omega, Nat.pow_add]
          have h8 : 2 ^ (7 * (i + 1)) = 128 * 2 ^ (7 * i) := by rw [show 7 * (i + 1) = 7 + 7 * i by omega, Nat.pow_add]
          have em : ((c.toNat - 128) + 128 * n) % 128 = c.toNat - 128 := by omega
          have ed : ((c.toNat - 128) + 128 * n) / 128 = n := by omega
          have hv : varL ((c.toNat - 128) + 128 * n) = c :: varL n := by
            rw [varL_ge hbig, em, ed]
            congr 1
            omega
          refine ⟨(c.toNat - 128) + 128 * n, ?_, by rw [h7]; omega, by omega, ?_, by rw [hv, h6]; simp; omega⟩
          · rw [h2, h8, Nat.add_mul, ← Nat.add_assoc, Nat.mul_comm 128 n, Nat.mul_assoc]
          · rw [hv]
            have hk : k - i = (k - (i + 1)) + 1 := by have := varL_pos' n; omega
            rw [hk, List.drop_succ_cons, List.cons_append, ← h5]
/-- What is read was so written. -/
theorem numP_back {l : List Int} {v k : Nat} (hb : ∀ x ∈ l, 0 ≤ x ∧ x ≤ 255) (h : numP l = (0, v, k)) : v < 18446744073709551616 ∧ l = varL v ++ l.drop k ∧ k = (varL v).length := by
  obtain ⟨n, h1, h2, _, h4, h5⟩ := numG_back 10 0 0 l v k rfl hb h
  obtain rfl : v = n := by simpa using h1
  exact ⟨by simpa using h2, by simpa using h4, by simpa using h5⟩
theorem numG_err : ∀ (f i acc : Nat) (l : List Int), (numG f i acc l).1 = 0 ∨ (numG f i acc l).1 = 2 ∨ (numG f i acc l).1 = 3
  | 0, _, _, _ => .inr (.inl rfl)
  | f + 1, i, acc, [] => .inr (.inr rfl)
  | f + 1, i, acc, c :: r => by
    simp only [numG]
    split
    · exact .inr (.inl rfl)
    · split
      · exact .inl rfl
      · exact numG_err f _ _ r
theorem numG_max : ∀ (f i acc : Nat) (l : List Int), i ≤ (numG f i acc l).2.2 ∧ (numG f i acc l).2.2 ≤ i + l.length ∨ (numG f i acc l).2.2 = 0
  | 0, _, _, _ => .inr rfl
  | f + 1, i, acc, [] => .inr rfl
  | f + 1, i, acc, c :: r => by
    simp only [numG]
    split
    · exact .inr rfl
    · split
      · exact .inl ⟨by simp, by simp⟩
      · rcases numG_max f (i + 1) (acc + (c.toNat - 128) * 2 ^ (7 * i)) r with h | h
        · exact .inl ⟨by omega, by simp; omega⟩
        · exact .inr h
end Go.Proofs.YtmbdpcamhkdkmaaGreatDoor

namespace Go.Proofs.YtmbdpcamhkdkmaaGreatDoor
open Go.RowKit
set_option linter.unusedVariables false
set_option linter.unusedSimpArgs false

/-- A string's bytes as numbers. -/
def numsS (s : ByteArray) : List Int := s.data.toList.map (fun b => (b.toNat : Int))
theorem numsS_byte (s : ByteArray) : ∀ x ∈ numsS s, 0 ≤ x ∧ x ≤ 255 := fun x hx => by
  obtain ⟨b, _, rfl⟩ := List.mem_map.1 hx
  have := b.toNat_lt
  omega
theorem str_numsS (s : ByteArray) : strOfNums (numsS s) = s := by
  apply ByteArray.ext
  apply Array.toList_inj.1
  rw [strOfNums_data, numsS, List.map_map]
  conv => rhs; rw [← List.map_id s.data.toList]
  exact List.map_congr_left (fun b _ => by (show UInt8.ofNat ((b.toNat : Int)).toNat = b); rw [Int.toNat_natCast]; exact UInt8.ofNat_toNat)
theorem numsS_len (s : ByteArray) : (numsS s).length = s.size := by rw [numsS, List.length_map, Array.length_toList]; rfl
theorem cells_numsS (s : ByteArray) : Lib.strCells s = bytesV (numsS s) := by rw [Lib.strCells, bytesV, numsS, List.map_map]; rfl

section
variable {o : Oper} {a : Act} {K : Act → World → Prop} {Q : Exit → Act → World → Prop} {w0 w : World}
theorem wp_bx (s x : Operand) (ho : o.op = .call { callee := .builtin .append, args := #[s, x], argTypes := #[25, 25] })
    (v : Value) (L : List Int) (hs : a.eval s = v) (hB : Bx w0 w v L) (u : Value) (M : List Int) (hx : a.eval x = u) (hM : Own w 5 1 u M.length (bytesV M)) (hl : L.length + M.length ≤ 140737488355328)
    (h : ∀ v' w', Bx w0 w' v' (L ++ M) → Chg w w' (blkOf v) → K (a.put o.dst v') w') : o.wp Tryz.prog a w K Q := by
  obtain ⟨ao, co, rfl, _⟩ := hB.1.form
  obtain ⟨av, cv, rfl, _, _, hvn, _⟩ := hM.form
  have hrd := hM.rd
  refine wp_app s x 25 ho 5 (.int .u8 0) 1 1 i_byte u_bytes rfl (by decide) (.slice ao L.length co) L.length _ hs hB.1 av M.length cv (bytesV M) hx hvn (by simp [bytesV]) ?_ (bytes_one M) (by unfold maxLen; omega) (by omega) ?_
  · intro b hb j u' hu
    obtain ⟨b', o', h1, h2⟩ := hrd.cell hu
    rw [hb] at h1
    cases h1
    rw [Addr.add_lit]; exact h2
  · intro v' w' ho' hc' hf'
    exact h v' w' (hB.pushs (ys := M) ho' hc' hf' rfl (by simp)) hc'
theorem wpList_bx {ops : Array Oper} {rest : List Oper} (hgd : o.guard = none) (s x : Operand) (ho : o.op = .call { callee := .builtin .append, args := #[s, x], argTypes := #[25, 25] })
    (v : Value) (L : List Int) (hs : a.eval s = v) (hB : Bx w0 w v L) (u : Value) (M : List Int) (hx : a.eval x = u) (hM : Own w 5 1 u M.length (bytesV M)) (hl : L.length + M.length ≤ 140737488355328)
    (h : ∀ v' w', Bx w0 w' v' (L ++ M) → Chg w w' (blkOf v) → wpList Tryz.prog ops Q rest (a.put o.dst v') w') : wpList Tryz.prog ops Q (o :: rest) a w :=
  wpList_plain hgd fun _ hK => wp_bx s x ho v L hs hB u M hx hM hl fun v' w' h1 h2 => hK _ _ (h v' w' h1 h2)
/-- A string's bytes put behind. -/
theorem wp_bxs (s x : Operand) (ho : o.op = .call { callee := .builtin .append, args := #[s, x], argTypes := #[25, 9] })
    (v : Value) (L : List Int) (hs : a.eval s = v) (hB : Bx w0 w v L) (t : ByteArray) (hx : a.eval x = .string t) (hl : L.length + t.size ≤ 140737488355328)
    (h : ∀ v' w', Bx w0 w' v' (L ++ numsS t) → Chg w w' (blkOf v) → K (a.put o.dst v') w') : o.wp Tryz.prog a w K Q := by
  obtain ⟨i, hi, hz, hsize, hby⟩ := info_parts i_byte
  have hown : w.ownsRow w0.heap.size 5 1 v L.length (bytesV L) := by
    refine ⟨hB.1.1, ?_⟩
    rcases hB.1.2 with h1 | ⟨g, cap, cur, hv, _, r⟩
    · exact .inl h1
    · exact .inr ⟨g, cap, cur, hv, hB.2.2 g (by rw [hv]; rfl), r⟩
  obtain ⟨v', w', hr, h2, h3, _⟩ := Lib.run_append_own_string (P := Tryz.prog) w w0.heap.size 25 9 o.type 5 i u_bytes (by kernel_rfl) hi hz hsize hby v L.length _ hown t (by unfold maxLen; omega) hl hB.2.1.size
  rw [cells_numsS] at h2
  unfold Oper.wp execOp
  simp only [ho, resolve, invoke, builtin, Sem.run_bind, Sem.run_pure, Result.andThen_ok, List.map_toArray, List.map_cons, List.map_nil, hs, hx, hr]
  have hc : Chg w w' (blkOf v) := (Chg.ofGrown h3).mono fun k _ h => h
  refine h v' w' ⟨⟨?_, ?_⟩, hB.2.1.trans hc (fun i hi hb => by have := hB.2.2 i hb; omega), fun k hk => ?_⟩ hc
  · simp [bytesV]
  · rcases h2.2 with ⟨h4, h5⟩ | ⟨g, cap, cur, hv, _, hh, r⟩
    · exact .inl ⟨h4, by rw [List.length_append, numsS_len]; exact h5⟩
    · refine .inr ⟨g, cap, cur, by rw [List.length_append, numsS_len]; exact hv, Nat.zero_le _, hh, ?_⟩
      rw [List.length_append, numsS_len]
      simpa [bytesV] using r
  · rcases h2.2 with ⟨rfl, _⟩ | ⟨g, cap, cur, rfl, hb, _⟩
    · cases hk
    · cases hk; exact hb
end
end Go.Proofs.YtmbdpcamhkdkmaaGreatDoor

namespace Go.Proofs.YtmbdpcamhkdkmaaGreatDoor
open Go.RowKit
set_option linter.unusedVariables false
set_option linter.unusedSimpArgs false

theorem Rd.lt {w : World} {size : Nat} {v : Value} {n : Nat} {xs : List Value} (h : Rd w size v n xs) (hx : xs ≠ []) {k : Nat} (hk : blkOf v k) : k < w.heap.size := by
  obtain ⟨ao, cap, rfl, h1, h2, h3⟩ := h
  cases xs with
  | nil => exact absurd rfl hx
  | cons u us =>
    obtain ⟨b, o, rfl, hc⟩ := h3 0 u rfl
    cases hk
    exact World.block_lt_of_cell? w _ hc
/-- Where a slice of a slice begins. -/
def addS (a : Option Addr) (cap l : Nat) : Option Addr := if cap = l then a else a.map (·.add l)
theorem addS_blk {a : Option Addr} {cap l m n c d k : Nat} (h : blkOf (.slice (addS a cap l) m c) k) : blkOf (.slice a n d) k := by
  cases a with
  | none => unfold addS at h; split at h <;> cases h
  | some x =>
    unfold addS at h
    split at h
    · exact h
    · have hb : (x.add l).block = x.block := by unfold Addr.add; split <;> rfl
      simpa [blkOf, Value.ownBlock, hb] using h
theorem Rd.cut {w : World} {a : Option Addr} {len cap l m : Nat} {xs : List Value} (h : Rd w 1 (.slice a len cap) len xs) (hl : l ≤ m) (hm : m ≤ len) :
    Rd w 1 (.slice (addS a cap l) (m - l) (cap - l)) (m - l) ((xs.take m).drop l) := by
  obtain ⟨ao, cap', hv, h1, h2, h3⟩ := h
  cases hv
  refine ⟨_, _, rfl, by omega, by simp; omega, fun j u hu => ?_⟩
  have hj := (List.getElem?_eq_some_iff.1 hu).1
  simp at hj
  rw [List.getElem?_drop, List.getElem?_take_of_lt (by omega)] at hu
  obtain ⟨g, o, rfl, hc⟩ := h3 _ u hu
  by_cases hcl : cap = l
  · omega
  · refine ⟨g, o + l, by simp [addS, hcl, Addr.add_lit], by rw [Nat.add_assoc]; exact hc⟩
set_option maxRecDepth 100000 in
theorem run_cut_h (a : Option Addr) (len cap : Nat) (k : IntKind) (h : Int) (w : World) (h0 : 0 ≤ h) (h2 : h ≤ cap) :
    (Instr.slice 25 (.slice a len cap) none (some (.int k h)) none).run Tryz.prog w = .ok (.slice (addS a cap 0) h.toNat cap) w := by
  rw [run_slice_h w 25 a len cap u_bytes k h h0 h2]
  rfl
set_option maxRecDepth 100000 in
theorem run_cut_l (a : Option Addr) (len cap : Nat) (k : IntKind) (l : Int) (w : World) (h0 : 0 ≤ l) (h2 : l ≤ len) :
    (Instr.slice 25 (.slice a len cap) (some (.int k l)) none none).run Tryz.prog w = .ok (.slice (addS a cap l.toNat) (len - l.toNat) (cap - l.toNat)) w := by
  rw [run_slice_l w 25 a len cap u_bytes k l h0 h2]
  have : (sizeOf (Tryz.prog.elem 25)).run Tryz.prog w = .ok 1 w := rfl
  rw [this]
  simp [Result.andThen, sliced, addS]
theorem Bx.drew {w wr : World} {v : Value} {L : List Int} (h : Bx w wr v L) : Bx w wr.drew v L := ⟨World.ownsRow.drew h.1, h.2.1.drew, h.2.2⟩
theorem size_al (w : World) (o : Obj) : (w.alloc o).heap.size = w.heap.size + 1 := Array.size_push _
/-- Bytes behind bytes of one's own: what the append wants of the second. -/
def NilOk (v : Value) : Prop := ∀ n c, v = .slice none n c → c = 0
theorem Own.nilOk {w : World} {e : TypeId} {size n : Nat} {v : Value} {xs : List Value} (h : Own w e size v n xs) : NilOk v := fun m c hv => by
  obtain ⟨ao, cap, rfl, _, _, h1, _⟩ := h.form
  cases hv
  exact (h1 rfl).2
theorem NilOk.cut {a : Option Addr} {n c l m : Nat} (h : NilOk (.slice a n c)) : NilOk (.slice (addS a c l) m (c - l)) := fun m' c' hv => by
  cases a with
  | none =>
    have h0 := h n c rfl
    subst h0
    have h1 : c' = 0 - l := by injection hv with _ _ e; exact e.symm
    omega
  | some x => exfalso; unfold addS at hv; split at hv <;> cases hv
theorem Rd.news {w : World} {ao : Option Addr} {n cap : Nat} {xs : List Int} (hr : Rd w 1 (.slice ao n cap) n (bytesV xs)) : ∀ a, ao = some a → ∀ j u, (bytesV xs)[j]? = some u → w.cell? (a.add j) = some u := fun a ha j u hu => by
  obtain ⟨b', o', h1, h2⟩ := hr.cell hu
  rw [ha] at h1
  cases h1
  rw [Addr.add_lit]; exact h2
theorem Rd.nil0 {w : World} {ao : Option Addr} {cap : Nat} {xs : List Int} (hr : Rd w 1 (.slice ao xs.length cap) xs.length (bytesV xs)) (hn : NilOk (.slice ao xs.length cap)) : ao = none → xs.length = 0 ∧ cap = 0 := fun h => by
  subst h
  refine ⟨?_, hn _ _ rfl⟩
  cases xs with
  | nil => rfl
  | cons x t => obtain ⟨_, _, h, _⟩ := hr.cell (j := 0) (u := .int .u8 x) rfl; cases h

set_option maxRecDepth 100000 in
/-- A copy of bytes. -/
theorem copy_any (w : World) (va : Value) (xs : List Int) (ha : Rd w 1 va xs.length (bytesV xs)) (hn : NilOk va) (hl : xs.length ≤ 1000000) :
    Calls Tryz.prog 82 #[va] w fun e w' => ∃ v, e = .returned v ∧ Own w' 5 1 v xs.length (bytesV xs) ∧ Chg w w' nob ∧ ∀ k, blkOf v k → w.heap.size ≤ k := by
  obtain ⟨ao, cap, rfl, hc, hlen⟩ := ha.form
  have hr : Rd (w.alloc (.cells #[] 5)) 1 (.slice ao xs.length cap) xs.length (bytesV xs) := ha.alloc _
  have hnews := Lib.hid hr.news
  have hnil := Lib.hid (ha.nil0 hn)
  have hone := Lib.hid (bytes_one xs)
  have hown : Own (w.alloc (.cells #[] 5)) 5 1 (.slice (some ⟨w.heap.size, 0, none⟩) 0 0) 0 [] := Own.lit w 5 #[] (by decide)
  clear hr ha hn
  go_enter Tryz.func82, Tryz.ntmps82
  go_wp2_with (at_builtin; refine wpList_app rfl (.tmp 3) (.tmp 4) 25 rfl 5 (.int .u8 0) 1 1 i_byte u_bytes rfl (by decide) _ 0 _ rfl hown ao xs.length cap (bytesV xs) rfl hnil.out (by simp [bytesV]) hnews.out hone.out (by unfold maxLen; omega) (by omega) ?_)
  intro v5 w5 ho5 hch5 hfo5
  go_wp2
  go_ret
  refine ⟨_, rfl, by simpa using ho5, ((Chg.refl w nob).alloc _).trans hch5 (fun i hi h => ?_), fun k hk => ?_⟩
  · cases h; simp at hi
  · rcases hfo5 k hk with h | h
    · cases h; exact Nat.le_refl _
    · have := size_al w (.cells #[] 5); omega

end Go.Proofs.YtmbdpcamhkdkmaaGreatDoor
