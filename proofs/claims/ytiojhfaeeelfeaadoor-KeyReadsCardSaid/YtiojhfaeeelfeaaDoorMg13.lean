/-
  Titles: a string's signs and back.
  Bits of signs: masks and joins as sums.
-/
import Derived.Test.YtiojhfaeeelfeaaDoorMg3
import Derived.Laws.IdiomStrings
import Derived.Laws.Cover4
import Derived.Test.YtiojhfaeeelfeaaDoorK
import Derived.Lib.EndianBits
namespace Go.Proofs.YtiojhfaeeelfeaaDoor
open Go.RowKit
set_option linter.unusedVariables false
set_option linter.unusedSimpArgs false

abbrev runesV (l : List Int) : List Value := l.map (Value.int .i32)
/-- The signs of a string, as '[]rune(s)' tells them. -/
def signsF (s : ByteArray) : Nat → Nat → List Int
  | 0, _ => []
  | b + 1, i => if i < s.size then ((Utf8.decode s i).1 : Int) :: signsF s b (i + (Utf8.decode s i).2) else []
def signsS (s : ByteArray) : List Int := signsF s s.size 0
theorem signs_run (s : ByteArray) : ∀ (b i : Nat) (acc : Array Value), Conv.runesFrom s b i acc = acc ++ (runesV (signsF s b i)).toArray
  | 0, i, acc => by simp [Conv.runesFrom, signsF]
  | b + 1, i, acc => by
    unfold Conv.runesFrom signsF
    split
    · simp only [signs_run s b]
      simp
    · simp
theorem signsS_run (s : ByteArray) : Conv.runesFrom s s.size 0 #[] = (runesV (signsS s)).toArray := by rw [signs_run]; simp [signsS]
theorem signsS_len (s : ByteArray) : (signsS s).length ≤ s.size := by
  have := size_runesFrom s s.size 0 #[]
  rw [signsS_run] at this
  simpa using this
theorem u_string : Tryd.prog.underlying 9 = some .string := by kernel_rfl
theorem u_runes : Tryd.prog.underlying 91 = some (.slice 21) := by kernel_rfl
theorem u_int32 : Tryd.prog.underlying 21 = some (.int .i32) := by kernel_rfl
/-- '[]rune(s)': a row of its own. -/
theorem to_signs (w : World) (s : ByteArray) (hs : s.size ≤ 1000000) : ∃ v w', (convert 9 91 (.string s)).run Tryd.prog w = .ok v w' ∧ Own w' 21 1 v (signsS s).length (runesV (signsS s)) ∧ Chg w w' nob := by
  have hl := signsS_len s
  have h := run_runes_of_string (P := Tryd.prog) w 9 91 21 s u_string u_runes u_int32 (by rw [signsS_run]; simp; omega)
  rw [signsS_run] at h
  have hge := grownCap_ge w (signsS s).length 0 21
  simp only [List.size_toArray, List.length_map] at h
  refine ⟨_, _, h, ?_, ((Chg.refl w nob).drew).alloc _⟩
  have hmx := grownCap_le_maxLen w (signsS s).length 0 21 (by unfold maxLen; omega)
  refine ⟨by simp, .inr ⟨w.heap.size, _, _, rfl, Nat.zero_le _, heap_alloc_new w.drew _, hge, hmx, ?_, ?_⟩⟩
  · simp; omega
  · simp
theorem rd_signs {w : World} {vt : Value} {t : List Int} (h : Own w 21 1 vt t.length (runesV t)) : (convert 91 9 vt).run Tryd.prog w = .ok (.string (runesBytes t)) w := by
  obtain ⟨ao, cap, rfl, hcap, hmax, hnone, hsome⟩ := h.form
  cases ao with
  | none =>
    have := List.length_eq_zero_iff.1 (hnone rfl).1
    subst this
    exact run_convert_runes_nil w _ _ _ _ _ u_runes u_int32 u_string
  | some a =>
    obtain ⟨g, rfl⟩ := hsome a rfl
    have hh := run_convert_runes (P := Tryd.prog) w 91 9 21 ⟨g, 0, none⟩ t.length cap t (Nat.le_refl _) u_runes u_int32 u_string (fun j hj => by
      rw [Addr.add_lit, Nat.zero_add, h.cellAt j (by omega)]
      simp [runesV, List.getD, hj])
    rw [List.take_length] at hh
    exact hh
def badF (r : Int) : Bool := decide (r < 32) || (decide (127 ≤ r) && decide (r ≤ 159))
set_option maxRecDepth 100000 in
set_option maxHeartbeats 4000000 in
theorem bad_any (w : World) (r : Int) : Calls Tryd.prog 72 #[.int .i32 r] w fun e w' => e = .returned (.bool (badF r)) ∧ w' = w := by
  rcases (show r < 32 ∨ (32 ≤ r ∧ r < 127) ∨ (127 ≤ r ∧ r ≤ 159) ∨ 159 < r by omega) with h | ⟨h, h'⟩ | ⟨h, h'⟩ | h
  all_goals
    go_enter Tryd.func72, Tryd.ntmps72
    go_wp2
    go_ret
    exact ⟨by (show Ending.returned (Value.bool _) = _); congr 2; rw [Bool.eq_iff_iff]; simp [badF]; try omega, rfl⟩
def findF (p : Int → Bool) : List Int → Nat → Int
  | [], _ => -1
  | a :: t, k => if p a then (k : Int) else findF p t (k + 1)
theorem findF_ge (p : Int → Bool) : ∀ (l : List Int) (k : Nat), 0 ≤ findF p l k ↔ l.any p = true
  | [], _ => by simp [findF]
  | a :: t, k => by
    unfold findF
    have := findF_ge p t (k + 1)
    by_cases h : p a = true
    · simp [h]
    · simpa [h] using this
set_option maxRecDepth 100000 in
set_option maxHeartbeats 4000000 in
theorem index_any (w : World) (va : Value) (l : List Int) (ha : Rd w 1 va l.length (runesV l)) (hl : l.length ≤ 1000000) :
    Calls Tryd.prog 91 #[va, .func (.func 72) #[] #[]] w fun e w' => e = .returned (.int .i64 (findF badF l 0)) ∧ w' = w := by
  obtain ⟨a1, c1, rfl, hn1, _⟩ := ha.form
  have HC := Lib.hid ha
  clear ha
  go_enter Tryd.func91, Tryd.ntmps91
  go_wp2
  go_loopw [8] (fun iv wr => ∃ k : Nat, k ≤ l.length ∧ iv = .int .i64 k ∧ wr = w ∧ Hid (findF badF l 0 = findF badF (l.drop k) k)) (fun iv _ => l.length - (intOf iv).toNat)
  case atStart => exact ⟨0, Nat.zero_le _, rfl, rfl, Lib.hid rfl⟩
  case round =>
    obtain ⟨k, hk, rfl, rfl, HA⟩ := hrel
    by_cases hkl : k < l.length
    · have hkn : (k : Int) < (l.length : Int) := by omega
      obtain ⟨g, o, rfl, hc⟩ := HC.out.cell (j := k) (u := .int .i32 (l[k])) (by simp [runesV, hkl])
      have hd : findF badF (l.drop k) k = if badF l[k] then (k : Int) else findF badF (l.drop (k + 1)) (k + 1) := by
        rw [List.drop_eq_getElem_cons hkl, findF]
      rw [hd] at HA
      clear hd
      obtain ⟨r, hr⟩ : ∃ r, l[k] = r := ⟨_, rfl⟩
      rw [hr] at HA hc
      obtain ⟨b, hb⟩ : ∃ b, badF r = b := ⟨_, rfl⟩
      rw [hb] at HA
      have HBB := Lib.hid hb
      clear hr hb
      go_wp2_with fail
      go_at_call 72
      refine (bad_any wr r).mono ?_
      rw [HBB.out]
      rintro e w1 ⟨rfl, rfl⟩
      cases b
      · go_wp2
        go_roundw
        case rel => exact ⟨k + 1, by omega, by go_num, by trivial, HA⟩
        case measure => simp [intOf]; omega
      · go_wp2
        go_ret
        exact ⟨by rw [HA.out]; rfl, rfl⟩
    · obtain rfl : k = l.length := by omega
      rw [List.drop_length] at HA
      go_wp2
      go_ret
      exact ⟨by rw [HA.out]; rfl, rfl⟩
set_option maxRecDepth 100000 in
set_option maxHeartbeats 4000000 in
theorem contains_any (w : World) (va : Value) (l : List Int) (ha : Rd w 1 va l.length (runesV l)) (hl : l.length ≤ 1000000) :
    Calls Tryd.prog 71 #[va, .func (.func 72) #[] #[]] w fun e w' => e = .returned (.bool (l.any badF)) ∧ w' = w := by
  have HC := Lib.hid ha
  obtain ⟨x, hx⟩ : ∃ x, findF badF l 0 = x := ⟨_, rfl⟩
  obtain ⟨b, hb⟩ : ∃ b, l.any badF = b := ⟨_, rfl⟩
  have hbx : Hid (decide (0 ≤ x) = b) := Lib.hid (by rw [← hx, ← hb, Bool.eq_iff_iff]; simpa using findF_ge badF l 0)
  have HX := Lib.hid hx
  rw [hb]
  clear ha hx hb
  go_enter Tryd.func71, Tryd.ntmps71
  go_wp2_with fail
  go_at_call 91
  refine (index_any w va l HC.out hl).mono ?_
  rw [HX.out]
  rintro e w1 ⟨rfl, rfl⟩
  go_wp2
  go_ret
  exact ⟨by rw [← hbx.out]; rfl, rfl⟩
def titleF (s : ByteArray) : Bool := decide (runesBytes (signsS s) = s) && decide ((signsS s).length ≤ 64) && !(signsS s).any badF
set_option maxRecDepth 100000 in
set_option maxHeartbeats 4000000 in
theorem title_any (w : World) (s : ByteArray) (hs : s.size ≤ 1000000) : Calls Tryd.prog 44 #[.string s] w fun e w' => e = .returned (.bool (titleF s)) ∧ Chg w w' nob := by
  obtain ⟨v, w1, hr, ho, hc⟩ := to_signs w s hs
  have hll := signsS_len s
  have hb := rd_signs ho
  have HO := Lib.hid ho
  have H1 := Lib.hid hc
  obtain ⟨b, hbd⟩ : ∃ b, (signsS s).any badF = b := ⟨_, rfl⟩
  have HBD := Lib.hid hbd
  obtain ⟨q, hq⟩ : ∃ q, decide (runesBytes (signsS s) = s) = q := ⟨_, rfl⟩
  have hq' : Hid (((runesBytes (signsS s)).toList == s.toList) = q) := Lib.hid (by
    rw [← hq, Bool.eq_iff_iff]
    simp only [beq_iff_eq, decide_eq_true_eq]
    exact ⟨fun h => toList_inj h, fun h => by rw [h]⟩)
  obtain ⟨d, hd⟩ : ∃ d, decide ((signsS s).length ≤ 64) = d := ⟨_, rfl⟩
  have ht : titleF s = (q && d && !b) := by rw [titleF, hq, hbd, hd]
  have HD := Lib.hid hd
  rw [ht]
  clear ht hbd hq hd
  obtain ⟨av, cv, rfl, hcv, _⟩ := ho.form
  clear ho hc
  generalize runesBytes (signsS s) = rb at *
  go_enter Tryd.func44, Tryd.ntmps44
  go_wp2_with fail
  go_at_call 71
  refine (contains_any w1 _ (signsS s) HO.out.rd (by omega)).mono ?_
  rw [HBD.out]
  rintro e w2 ⟨rfl, rfl⟩
  have hl : Hid (d = true ↔ ((signsS s).length : Int) ≤ 64) := Lib.hid (by rw [← HD.out]; simp; omega)
  cases d
  · have hl' : ¬ ((signsS s).length : Int) ≤ 64 := fun h => by simpa using hl.out.2 h
    cases q
    · have hqf : (rb.toList == s.toList) = false := hq'.out
      go_wp2
      go_ret
      exact ⟨rfl, H1.out⟩
    · have hqf : (rb.toList == s.toList) = true := hq'.out
      go_wp2
      go_ret
      exact ⟨rfl, H1.out⟩
  · have hl' : ((signsS s).length : Int) ≤ 64 := hl.out.1 rfl
    cases q
    · have hqf : (rb.toList == s.toList) = false := hq'.out
      go_wp2
      go_ret
      exact ⟨rfl, H1.out⟩
    · have hqf : (rb.toList == s.toList) = true := hq'.out
      go_wp2
      go_ret
      exact ⟨rfl, H1.out⟩
end Go.Proofs.YtiojhfaeeelfeaaDoor

namespace Go.Proofs.YtiojhfaeeelfeaaDoor
set_option linter.unusedVariables false

theorem wraps_i32 (n : Int) (h₀ : 0 ≤ n) (h₁ : n < 2 ^ 31) : IntKind.i32.wrap n = n := by
  simp only [IntKind.wrap, IntKind.bits, IntKind.signed]; simp; omega
theorem wraps_u8 (n : Int) (h₀ : 0 ≤ n) (h₁ : n < 2 ^ 8) : IntKind.u8.wrap n = n := by
  simp only [IntKind.wrap, IntKind.bits, IntKind.signed]; simp; omega
section
variable (x y : Int)
theorem i32_and31 (h₀ : 0 ≤ x) (h₁ : x < 2147483648) : bits .and .i32 x (31) = x % 32 := bits_mask .i32 31 (by decide) wraps_i32 5 (by decide) x h₀ (by omega)
theorem i32_and15 (h₀ : 0 ≤ x) (h₁ : x < 2147483648) : bits .and .i32 x (15) = x % 16 := bits_mask .i32 31 (by decide) wraps_i32 4 (by decide) x h₀ (by omega)
theorem i32_and7 (h₀ : 0 ≤ x) (h₁ : x < 2147483648) : bits .and .i32 x (7) = x % 8 := bits_mask .i32 31 (by decide) wraps_i32 3 (by decide) x h₀ (by omega)
theorem i32_and63 (h₀ : 0 ≤ x) (h₁ : x < 2147483648) : bits .and .i32 x (63) = x % 64 := bits_mask .i32 31 (by decide) wraps_i32 6 (by decide) x h₀ (by omega)
theorem u8_and31 (h₀ : 0 ≤ x) (h₁ : x < 256) : bits .and .u8 x (31) = x % 32 := bits_mask .u8 8 (by decide) wraps_u8 5 (by decide) x h₀ (by omega)
theorem u8_and15 (h₀ : 0 ≤ x) (h₁ : x < 256) : bits .and .u8 x (15) = x % 16 := bits_mask .u8 8 (by decide) wraps_u8 4 (by decide) x h₀ (by omega)
theorem u8_and7 (h₀ : 0 ≤ x) (h₁ : x < 256) : bits .and .u8 x (7) = x % 8 := bits_mask .u8 8 (by decide) wraps_u8 3 (by decide) x h₀ (by omega)
theorem u8_and63 (h₀ : 0 ≤ x) (h₁ : x < 256) : bits .and .u8 x (63) = x % 64 := bits_mask .u8 8 (by decide) wraps_u8 6 (by decide) x h₀ (by omega)
theorem i32_or6 (hx₀ : 0 ≤ x) (hx₁ : x * 64 < 2147483648) (hy₀ : 0 ≤ y) (hy : y < 64) : bits .or .i32 (x * 64) y = x * 64 + y :=
  bits_join .i32 31 (by decide) wraps_i32 6 (x * 64) y (by omega) (by omega) (by omega) hy₀ hy (by omega)
theorem i32_or12 (hx₀ : 0 ≤ x) (hx₁ : x * 4096 < 2147483648) (hy₀ : 0 ≤ y) (hy : y < 4096) : bits .or .i32 (x * 4096) y = x * 4096 + y :=
  bits_join .i32 31 (by decide) wraps_i32 12 (x * 4096) y (by omega) (by omega) (by omega) hy₀ hy (by omega)
theorem i32_or18 (hx₀ : 0 ≤ x) (hx₁ : x * 262144 < 2147483648) (hy₀ : 0 ≤ y) (hy : y < 262144) : bits .or .i32 (x * 262144) y = x * 262144 + y :=
  bits_join .i32 31 (by decide) wraps_i32 18 (x * 262144) y (by omega) (by omega) (by omega) hy₀ hy (by omega)
theorem u8_or6 (hx₀ : 0 ≤ x) (hx₁ : x * 64 < 256) (hy₀ : 0 ≤ y) (hy : y < 64) : bits .or .u8 (x * 64) y = x * 64 + y :=
  bits_join .u8 8 (by decide) wraps_u8 6 (x * 64) y (by omega) (by omega) (by omega) hy₀ hy (by omega)
end
end Go.Proofs.YtiojhfaeeelfeaaDoor
