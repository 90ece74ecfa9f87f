/-
  Numbers one behind the other: key.vars, and the document's nums.
  Cells compared.
-/
import Derived.Test.YtmbdpcamhkdkmaaGreatDoorMg7
import Derived.Test.YtmbdpcamhkdkmaaGreatDoorMg4
namespace Go.Proofs.YtmbdpcamhkdkmaaGreatDoor
open Go.RowKit
set_option linter.unusedVariables false
set_option linter.unusedSimpArgs false

def numsV (l : List Nat) : List Value := l.map (fun (n : Nat) => Value.int .u64 ((n : Nat) : Int))
def varsL (l : List Nat) : List Int := l.flatMap varL
theorem varsL_len (l : List Nat) (h : ∀ n ∈ l, n < 18446744073709551616) : (varsL l).length ≤ 10 * l.length := by
  induction l with
  | nil => simp [varsL]
  | cons a t ih =>
    have h1 := varL_len 9 a (by have := h a (List.mem_cons_self ..); omega)
    have h2 := ih (fun n hn => h n (List.mem_cons_of_mem _ hn))
    simp only [varsL, List.flatMap_cons, List.length_append, List.length_cons] at *
    omega
set_option maxRecDepth 100000 in
set_option maxHeartbeats 4000000 in
theorem vars_any (w : World) (va : Value) (l : List Nat) (ha : Rd w 1 va l.length (numsV l)) (hb : ∀ n ∈ l, n < 18446744073709551616) (hl : l.length ≤ 1000) :
    Calls Tryz.prog 41 #[va] w fun e w' => ∃ v, e = .returned v ∧ Bx w w' v (varsL l) := by
  obtain ⟨a1, c1, rfl, hn1, _, hx1⟩ := ha
  have HC := Lib.hid hx1
  have HBD := Lib.hid hb
  clear hx1 hb
  go_enter Tryz.func41, Tryz.ntmps41
  go_wp2
  go_loopw [3, 8] (fun bv iv wr => ∃ k : Nat, k ≤ l.length ∧ iv = .int .i64 k ∧ Hid (Bx w wr bv (varsL (l.take k)))) (fun _ iv _ => l.length - (intOf iv).toNat)
  case atStart => exact ⟨0, Nat.zero_le _, rfl, Lib.hid ⟨World.ownsRow_nil _ _ _ _, Chg.refl _ _, fun k hk => by cases hk⟩⟩
  case round =>
    obtain ⟨k, hk, rfl, HB⟩ := hrel
    by_cases hkl : k < l.length
    · have hkn : (k : Int) < (l.length : Int) := by omega
      obtain ⟨g, o, rfl, hcx⟩ := HC.out k (.int .u64 ((l.getD k 0 : Nat) : Int)) (by simp [numsV, List.getD, hkl])
      have hcr := HB.out.2.1.cell hcx id
      have hsn : varsL (l.take (k + 1)) = varsL (l.take k) ++ varL (l.getD k 0) := by rw [take_snoc hkl 0]; simp [varsL]
      have hnb := HBD.out (l.getD k 0) (by simp [List.getD, hkl])
      have hln := varsL_len (l.take k) (fun n hn => HBD.out n (List.mem_of_mem_take hn))
      rw [List.length_take] at hln
      generalize l.getD k 0 = n at *
      have hvl := varL_len 9 n (by omega)
      have HSN := Lib.hid hsn
      clear hsn hcx
      generalize varsL (l.take k) = L at *
      go_wp2_with fail
      go_at_call 44
      refine (var_any wr n hnb).mono ?_
      rintro e w2 ⟨v, rfl, hv⟩
      obtain ⟨ao, co, rfl, _⟩ := HB.out.1.form
      obtain ⟨av, cv, rfl, _, _, hvn, hvs⟩ := hv.1.form
      have hown := HB.out.1.kept hv.2.1 (fun _ _ => id)
      have hrd := hv.1.rd
      have hnews : ∀ a, av = some a → ∀ j u, (bytesV (varL n))[j]? = some u → w2.cell? (a.add j) = some u := fun a ha j u hu => by
        obtain ⟨b', o', h1, h2⟩ := hrd.cell hu
        rw [ha] at h1
        cases h1
        rw [Addr.add_lit]; exact h2
      have HO := Lib.hid hown
      have HV := Lib.hid hv
      have HNW := Lib.hid hnews
      have HVN := Lib.hid hvn
      have HON := Lib.hid (bytes_one (varL n))
      clear hown hv hnews hvn hvs hrd hcr
      go_wp2_with (at_builtin; refine wpList_app rfl (.tmp 12) (.tmp 14) 25 rfl 5 (.int .u8 0) 1 1 i_byte u_bytes rfl (by decide) (.slice ao L.length co) L.length _ rfl HO.out av (varL n).length cv (bytesV (varL n)) rfl HVN.out (by simp [bytesV]) HNW.out HON.out (by unfold maxLen; omega) (by omega) ?_)
      intro v3 w3 ho3 hch3 hfo3
      have hb := Bx.pushs (ys := varL n) (wr := w2) ⟨HO.out, HB.out.2.1.trans HV.out.2.1 (fun _ _ h => h), HB.out.2.2⟩ ho3 hch3 hfo3 rfl (by simp)
      obtain ⟨a3, c3, rfl, _⟩ := ho3.form
      rw [← HSN.out] at hb
      have HB1 := Lib.hid hb
      clear hb ho3 hch3 hfo3
      go_wp2
      go_roundw
      case rel => exact ⟨k + 1, by omega, by go_num, HB1⟩
      case measure => simp [intOf]; omega
    · obtain rfl : k = l.length := by omega
      rw [List.take_length] at HB
      go_wp2
      go_ret
      exact ⟨_, rfl, HB.out⟩
set_option maxRecDepth 100000 in
set_option maxHeartbeats 4000000 in
theorem nums_any (w : World) (va : Value) (l : List Nat) (ha : Rd w 1 va l.length (numsV l)) (hb : ∀ n ∈ l, n < 18446744073709551616) (hl : l.length ≤ 1000) :
    Calls Tryz.prog 20 #[va] w fun e w' => ∃ v, e = .returned v ∧ Bx w w' v (varsL l) := by
  obtain ⟨a1, c1, rfl, hn1, _, hx1⟩ := ha
  have HC := Lib.hid hx1
  have HBD := Lib.hid hb
  clear hx1 hb
  go_enter Tryz.func20, Tryz.ntmps20
  go_wp2
  go_loopw [3, 4] (fun bv iv wr => ∃ k : Nat, k ≤ l.length ∧ iv = .int .i64 k ∧ Hid (Bx w wr bv (varsL (l.take k)))) (fun _ iv _ => l.length - (intOf iv).toNat)
  case atStart => exact ⟨0, Nat.zero_le _, rfl, Lib.hid ⟨World.ownsRow_nil _ _ _ _, Chg.refl _ _, fun k hk => by cases hk⟩⟩
  case round =>
    obtain ⟨k, hk, rfl, HB⟩ := hrel
    by_cases hkl : k < l.length
    · have hkn : (k : Int) < (l.length : Int) := by omega
      obtain ⟨g, o, rfl, hcx⟩ := HC.out k (.int .u64 ((l.getD k 0 : Nat) : Int)) (by simp [numsV, List.getD, hkl])
      have hcr := HB.out.2.1.cell hcx id
      have hsn : varsL (l.take (k + 1)) = varsL (l.take k) ++ varL (l.getD k 0) := by rw [take_snoc hkl 0]; simp [varsL]
      have hnb := HBD.out (l.getD k 0) (by simp [List.getD, hkl])
      have hln := varsL_len (l.take k) (fun n hn => HBD.out n (List.mem_of_mem_take hn))
      rw [List.length_take] at hln
      generalize l.getD k 0 = n at *
      have hvl := varL_len 9 n (by omega)
      have HSN := Lib.hid hsn
      clear hsn hcx
      generalize varsL (l.take k) = L at *
      go_wp2_with fail
      go_at_call 48
      refine (refvar_any wr n hnb).mono ?_
      rintro e w2 ⟨v, rfl, hv⟩
      obtain ⟨ao, co, rfl, _⟩ := HB.out.1.form
      obtain ⟨av, cv, rfl, _, _, hvn, hvs⟩ := hv.1.form
      have hown := HB.out.1.kept hv.2.1 (fun _ _ => id)
      have hrd := hv.1.rd
      have hnews : ∀ a, av = some a → ∀ j u, (bytesV (varL n))[j]? = some u → w2.cell? (a.add j) = some u := fun a ha j u hu => by
        obtain ⟨b', o', h1, h2⟩ := hrd.cell hu
        rw [ha] at h1
        cases h1
        rw [Addr.add_lit]; exact h2
      have HO := Lib.hid hown
      have HV := Lib.hid hv
      have HNW := Lib.hid hnews
      have HVN := Lib.hid hvn
      have HON := Lib.hid (bytes_one (varL n))
      clear hown hv hnews hvn hvs hrd hcr
      go_wp2_with (at_builtin; refine wpList_app rfl (.tmp 11) (.tmp 16) 25 rfl 5 (.int .u8 0) 1 1 i_byte u_bytes rfl (by decide) (.slice ao L.length co) L.length _ rfl HO.out av (varL n).length cv (bytesV (varL n)) rfl HVN.out (by simp [bytesV]) HNW.out HON.out (by unfold maxLen; omega) (by omega) ?_)
      intro v3 w3 ho3 hch3 hfo3
      have hb := Bx.pushs (ys := varL n) (wr := w2) ⟨HO.out, HB.out.2.1.trans HV.out.2.1 (fun _ _ h => h), HB.out.2.2⟩ ho3 hch3 hfo3 rfl (by simp)
      obtain ⟨a3, c3, rfl, _⟩ := ho3.form
      rw [← HSN.out] at hb
      have HB1 := Lib.hid hb
      clear hb ho3 hch3 hfo3
      go_wp2
      go_roundw
      case rel => exact ⟨k + 1, by omega, by go_num, HB1⟩
      case measure => simp [intOf]; omega
    · obtain rfl : k = l.length := by omega
      rw [List.take_length] at HB
      go_wp2
      go_ret
      exact ⟨_, rfl, HB.out⟩
end Go.Proofs.YtmbdpcamhkdkmaaGreatDoor

namespace Go.Proofs.YtmbdpcamhkdkmaaGreatDoor
open Go.RowKit
set_option linter.unusedVariables false
set_option linter.unusedSimpArgs false

/-- Are two cells alike? (Kept shut for the walk.) -/
def eqC (a b : Ce) : Bool := decide (a = b)
theorem eqC_t {a b : Ce} (h : eqC a b = true) : a = b := by simpa [eqC] using h
theorem eqC_f {a b : Ce} (h : eqC a b = false) : a ≠ b := by simpa [eqC] using h
theorem ce_guard (op : BinOp) (x y : Operand) (xs ys : Array Value) (w : World) : (eqGuard op 47 x y (.agg xs) (.agg ys)).run Tryz.prog w = .ok () w := run_eqGuard_agg w op _ x y xs ys (by kernel_rfl)
theorem run_equal_ce (w : World) (n : Nat) (r f g b d r' f' g' b' d' : Int) :
    (Op.equalIn (n + 4) 47 (.agg #[.int .i32 r, .int .i64 f, .int .i64 g, .int .i64 b, .int .i64 d]) (.agg #[.int .i32 r', .int .i64 f', .int .i64 g', .int .i64 b', .int .i64 d'])).run Tryz.prog w = .ok (decide ((⟨r, f, g, b, d⟩ : Ce) = ⟨r', f', g', b', d'⟩)) w := by
  rw [run_equalIn_agg w (n + 3) 47 _ _ (by kernel_rfl) (by kernel_rfl)]
  by_cases h1 : r = r'
  · by_cases h2 : f = f'
    · by_cases h3 : g = g'
      · by_cases h4 : b = b'
        · by_cases h5 : d = d'
          · subst h1 h2 h3 h4 h5
            go_simp
          · subst h1 h2 h3 h4
            go_simp
        · subst h1 h2 h3
          go_simp
      · subst h1 h2
        go_simp
    · subst h1
      go_simp
  · go_simp
theorem run_eql_ce (w : World) (r f g b d r' f' g' b' d' : Int) :
    (binOp .eql 47 (.agg #[.int .i32 r, .int .i64 f, .int .i64 g, .int .i64 b, .int .i64 d]) (.agg #[.int .i32 r', .int .i64 f', .int .i64 g', .int .i64 b', .int .i64 d'])).run Tryz.prog w = .ok (.bool (eqC ⟨r, f, g, b, d⟩ ⟨r', f', g', b', d'⟩)) w := by
  rw [run_eql_struct, run_equal_ce w 9996]; rfl
theorem run_neq_ce (w : World) (r f g b d r' f' g' b' d' : Int) :
    (binOp .neq 47 (.agg #[.int .i32 r, .int .i64 f, .int .i64 g, .int .i64 b, .int .i64 d]) (.agg #[.int .i32 r', .int .i64 f', .int .i64 g', .int .i64 b', .int .i64 d'])).run Tryz.prog w = .ok (.bool (!eqC ⟨r, f, g, b, d⟩ ⟨r', f', g', b', d'⟩)) w := by
  rw [run_neq_struct, run_equal_ce w 9996]; rfl
end Go.Proofs.YtmbdpcamhkdkmaaGreatDoor
