/-
  Chapter 8: tikref.Dec.
-/
import Derived.Test.YtaficleoimfejaaEsc13
import Derived.Deep.RegionWith
namespace Go.Proofs.Ytaficleoimfejaa
open Go.RowKit
set_option linter.unusedVariables false
set_option linter.unusedSimpArgs false

/-- The decimal digits' signs. -/
def decD (n : Nat) : List Int := if h : n < 10 then [48 + (n : Int)] else decD (n / 10) ++ [48 + ((n % 10 : Nat) : Int)]
decreasing_by omega
theorem decD_lt {n : Nat} (h : n < 10) : decD n = [48 + (n : Int)] := by rw [decD, dif_pos h]
theorem decD_ge {n : Nat} (h : ¬ n < 10) : decD n = decD (n / 10) ++ [48 + ((n % 10 : Nat) : Int)] := by rw [decD, dif_neg h]
theorem decD_len : ∀ (k n : Nat), n < 10 ^ (k + 1) → (decD n).length ≤ k + 1
  | 0, n, h => by rw [decD_lt (by simpa using h)]; simp
  | k + 1, n, h => by
    by_cases h1 : n < 10
    · rw [decD_lt h1]; simp
    · rw [decD_ge h1, List.length_append]
      have := decD_len k (n / 10) (by rw [Nat.pow_succ] at h; omega)
      simp; omega
theorem decD_byte (n : Nat) : ∀ x ∈ decD n, 48 ≤ x ∧ x ≤ 57 := by
  intro x hx
  by_cases h : n < 10
  · rw [decD_lt h, List.mem_singleton] at hx; omega
  · rw [decD_ge h] at hx
    rcases List.mem_append.1 hx with hx | hx
    · exact decD_byte (n / 10) x hx
    · rw [List.mem_singleton] at hx; omega
termination_by n
decreasing_by omega
theorem wraps_u64 (x : Int) (h0 : 0 ≤ x) (h1 : x < 18446744073709551616) : IntKind.u64.wrap x = x := by simp [IntKind.wrap, IntKind.bits, IntKind.signed]; omega
theorem str_app (xs ys : List Int) : strOfNums xs ++ strOfNums ys = strOfNums (xs ++ ys) := by
  apply ByteArray.ext
  apply Array.toList_inj.1
  rw [ByteArray.data_append, Array.toList_append, strOfNums_data, strOfNums_data, strOfNums_data, List.map_append]
theorem one_byte (w : World) (c : Int) : (convert 44 9 (.slice (some ⟨w.heap.size, 0, none⟩) 1 1)).run Try.prog (w.alloc (.cells #[.int .u8 c] 5)) = .ok (.string (strOfNums [c])) (w.alloc (.cells #[.int .u8 c] 5)) :=
  rd_string _ _ [c] (Own.lit w 5 #[.int .u8 c] (by simp)).rd
set_option maxHeartbeats 4000000 in
theorem dec_any (n : Nat) (hn : n < 18446744073709551616) (w : World) : Calls Try.prog 14 #[.int .u64 n] w fun e w' => e = .returned (.string (strOfNums (decD n))) ∧ Chg w w' nob := by
  by_cases h : n < 10
  · have hi : (n : Int) < 10 := by omega
    rw [decD_lt h]
    have h1 : IntKind.u64.wrap (48 + (n : Int)) = 48 + (n : Int) := wraps_u64 _ (by omega) (by omega)
    have h2 : IntKind.u8.wrap (48 + (n : Int)) = 48 + (n : Int) := wraps_u8 _ (by omega) (by omega)
    have hc := one_byte w (48 + (n : Int))
    go_enter Try.func14, Try.ntmps14
    go_wp2
    go_ret
    exact ⟨rfl, (Chg.refl w nob).alloc _⟩
  · have ih := dec_any (n / 10) (by omega)
    have hi : ¬ (n : Int) < 10 := by omega
    rw [decD_ge h]
    have HI := Lib.hid ih
    clear ih
    obtain ⟨m, hm⟩ : ∃ m, n / 10 = m := ⟨_, rfl⟩
    obtain ⟨r, hr⟩ : ∃ r, n % 10 = r := ⟨_, rfl⟩
    rw [hm] at HI ⊢
    rw [hr]
    have h1 : IntKind.u64.wrap ((n : Int) / 10) = (m : Int) := by rw [wraps_u64 _ (by omega) (by omega)]; omega
    have h2 : (n : Int) % 10 = (r : Int) := by omega
    have h2' : (n : Int).tmod 10 = (r : Int) := by rw [Int.tmod_eq_emod_of_nonneg (by omega)]; omega
    have h2'' : IntKind.u64.wrap (r : Int) = (r : Int) := wraps_u64 _ (by omega) (by omega)
    have h3 : IntKind.u64.wrap (48 + (r : Int)) = 48 + (r : Int) := wraps_u64 _ (by omega) (by omega)
    have h4 : IntKind.u8.wrap (48 + (r : Int)) = 48 + (r : Int) := wraps_u8 _ (by omega) (by omega)
    have hcD : (convert 44 9 (.slice (some ⟨w.heap.size, 0, none⟩) 1 1)).run Try.prog (w.alloc (.cells #[.int .u8 (48 + (r : Int))] 5)).drew = .ok (.string (strOfNums [48 + (r : Int)])) (w.alloc (.cells #[.int .u8 (48 + (r : Int))] 5)).drew :=
      rd_string _ _ [48 + (r : Int)] ((Own.lit w 5 #[.int .u8 (48 + (r : Int))] (by simp)).rd.kept ((Chg.refl _ nob).drew) (fun _ _ => id))
    have hsz : (strOfNums (decD m)).size + (strOfNums [48 + (r : Int)]).size ≤ 9223372036854775807 := by
      rw [strOfNums_size, strOfNums_size]
      have := decD_len 19 m (by omega)
      simp; omega
    clear hm hr hn
    go_enter Try.func14, Try.ntmps14
    go_upto_region 3 with (fail)
    go_region_with (first
      | (go_at_call 14
         refine (HI.out _).mono ?_
         rintro e W1 ⟨rfl, hc1⟩
         have hd1 : Chg w W1 nob := by
           first
             | exact ((Chg.refl w nob).drew).trans hc1 (fun _ _ h => h)
             | exact (((Chg.refl w nob).alloc _).drew).trans hc1 (fun _ _ h => h)
         have rb1 := one_byte W1 (48 + (r : Int))
         (try have rb2 : (convert 44 9 (.slice (some ⟨w.heap.size, 0, none⟩) 1 1)).run Try.prog W1 = .ok (.string (strOfNums [48 + (r : Int)])) W1 := rd_string W1 _ [48 + (r : Int)] ((Own.lit w 5 #[.int .u8 (48 + (r : Int))] (by simp)).rd.kept (((Chg.refl _ nob).drew).trans hc1 (fun _ _ h => h)) (fun _ _ => id)))))
    all_goals go_wp2
    all_goals go_ret
    all_goals rw [← str_app]
    all_goals exact ⟨rfl, by first | exact hd1 | exact hd1.alloc _⟩
termination_by n
decreasing_by omega
end Go.Proofs.Ytaficleoimfejaa
