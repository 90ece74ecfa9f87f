/-
  Chapter 10: the examples, and the walk of TabsSteps.
-/
import Derived.Test.YtadpjgjkicmhiaaTabs4
namespace Go.Proofs.Ytadpjgjkicmhiaa
open Go.RowKit
set_option linter.unusedVariables false
set_option linter.unusedSimpArgs false
attribute [local go_sem ↓] run_min_two run_max_two

theorem Stops.kept {w w' : World} {b : Nat} {l : List Bool} {F G : Nat → Prop} (h : Stops w b l F) (hc : Chg w w' G) (hG : ∀ k, F k → ¬ G k) : Stops w' b l F := by
  obtain ⟨v, hb, ho, rfl, hl⟩ := h
  exact ⟨v, hb.kept hc (hG b (.inl rfl)), ho.kept hc (fun k hk => hG k (.inr hk)), rfl, hl⟩

def l20 : List Bool := fresh 0 20
theorem l20_next0 : nextF l20 0 1 = 8 := by decide
theorem l20_next16 : nextF l20 16 1 = 19 := by decide
theorem l20_prev9 : prevF l20 9 1 = 8 := by decide
theorem l20_prev3 : prevF l20 3 1 = 0 := by decide
theorem l20_stops : stopsOf l20 = [8, 16] := by decide
theorem l20_len : l20.length = 20 := by decide

set_option maxHeartbeats 4000000 in
theorem first_any (w : World) :
    Calls Try.prog 6 #[] w fun e w' => e = .returned (.bool true) ∧ Chg w w' nob := by
  go_enter Try.func6, Try.ntmps6
  go_wp2_with fail
  go_at_call 7
  refine (new_any w 20 (by omega) (by omega)).mono ?_
  rintro e w1 ⟨b, F, rfl, hs, hch, hF⟩
  rw [show fresh 0 (Int.toNat 20) = l20 from rfl] at hs
  have hl := l20_len
  have e1 := l20_next0
  have e2 := l20_next16
  have e3 := l20_prev9
  have e4 := l20_prev3
  have HS := Lib.hid hs
  have HF := Lib.hid hF
  clear hs hF hl
  go_wp2_with (first
    | (go_at_call 10; refine (next_any _ b l20 F _ _ HS.out (by rw [l20_len]; omega) (by omega) (by omega) (by omega) (by omega)).mono ?_; rintro e w2 ⟨rfl, rfl⟩)
    | (go_at_call 11; refine (prev_any _ b l20 F _ _ HS.out (by rw [l20_len]; omega) (by omega) (by omega) (by omega) (by omega)).mono ?_; rintro e w2 ⟨rfl, rfl⟩))
  go_at_call 12
  refine (list_any _ b l20 F HS.out).mono ?_
  rintro e w2 ⟨v, rfl, ho, hc2, hf2⟩
  rw [l20_stops] at ho
  have HO := Lib.hid ho
  have HC2 := Lib.hid hc2
  clear ho hc2 hf2
  go_wp2_with fail
  go_at_call 19
  refine (ints_eq _ _ _ [8, 16] [8, 16] (HO.out.rd.alloc _) (Rd.made w2 3 #[.int .i64 8, .int .i64 16] rfl (Nat.le_refl _)) (by simp) (by simp)).mono ?_
  rintro e w3 ⟨rfl, hc3⟩
  have HC3 := Lib.hid hc3
  clear hc3
  go_wp2_with fail
  go_ret
  exact ⟨rfl, ((hch.trans HC2.out fun _ _ h => h).alloc _).trans HC3.out fun _ _ h => h⟩

/-- One step on, and back: what the law asks of it. -/
theorem up_le (l : List Bool) : ∀ d c n, c ≤ up l d c n ∧ up l d c n ≤ c + d
  | 0, c, n => by simp [up]
  | d + 1, c, n => by
    unfold up
    split
    · omega
    · have := up_le l d (c + 1) (if l.getD (c + 1) false then n - 1 else n); omega
theorem up_zero (l : List Bool) : ∀ d c, up l d c 0 = c
  | 0, _ => rfl
  | d + 1, c => by simp [up]
/-- none between -/
theorem up_one (l : List Bool) : ∀ d c x, c < x → x < up l d c 1 → l.getD x false = false
  | 0, c, x, h1, h2 => by simp [up] at h2; omega
  | d + 1, c, x, h1, h2 => by
    simp only [up, if_neg (show (1 : Nat) ≠ 0 by omega)] at h2
    cases hx : l.getD (c + 1) false with
    | true =>
      rw [hx] at h2
      simp [up_zero] at h2
      omega
    | false =>
      rw [hx] at h2
      by_cases hc : x = c + 1
      · rw [hc]; exact hx
      · exact up_one l d (c + 1) x (by omega) (by simpa using h2)
theorem up_moves (l : List Bool) {d c : Nat} (h : up l d c 1 = c) : d = 0 := by
  cases d with
  | zero => rfl
  | succ d =>
    simp only [up, if_neg (show (1 : Nat) ≠ 0 by omega)] at h
    have := (up_le l d (c + 1) (if l.getD (c + 1) false then 1 - 1 else 1)).1
    omega
/-- n + 1 steps are one and n. -/
theorem up_succ (l : List Bool) (n : Nat) : ∀ d c, up l d c (n + 1) = up l (c + d - up l d c 1) (up l d c 1) n
  | 0, c => by simp [up]
  | d + 1, c => by
    simp only [up, if_neg (show (1 : Nat) ≠ 0 by omega), if_neg (show n + 1 ≠ 0 by omega)]
    cases hx : l.getD (c + 1) false with
    | true =>
      simp only [if_true, Nat.add_sub_cancel, Nat.sub_self, up_zero]
      rw [show c + (d + 1) - (c + 1) = d by omega]
    | false =>
      simp only [Bool.false_eq_true, if_false]
      rw [up_succ l n d (c + 1), show c + 1 + d = c + (d + 1) by omega]
theorem dn_zero (l : List Bool) : ∀ c, dn l c 0 = c
  | 0 => rfl
  | c + 1 => by simp [dn]
theorem dn_le (l : List Bool) : ∀ c n, dn l c n ≤ c
  | 0, n => by simp [dn]
  | c + 1, n => by
    unfold dn
    split
    · omega
    · have := dn_le l c (if l.getD c false then n - 1 else n); omega
theorem dn_one (l : List Bool) : ∀ c x, x < c → dn l c 1 < x → l.getD x false = false
  | 0, x, h1, h2 => by omega
  | c + 1, x, h1, h2 => by
    simp only [dn, if_neg (show (1 : Nat) ≠ 0 by omega)] at h2
    cases hx : l.getD c false with
    | true =>
      rw [hx] at h2
      simp [dn_zero] at h2
      omega
    | false =>
      rw [hx] at h2
      by_cases hc : x = c
      · rw [hc]; exact hx
      · exact dn_one l c x (by omega) (by simpa using h2)
theorem dn_moves (l : List Bool) {c : Nat} (h : dn l c 1 = c) : c = 0 := by
  cases c with
  | zero => rfl
  | succ c =>
    simp only [dn, if_neg (show (1 : Nat) ≠ 0 by omega)] at h
    have := dn_le l c (if l.getD c false then 1 - 1 else 1)
    omega
theorem dn_succ (l : List Bool) (n : Nat) : ∀ c, dn l c (n + 1) = dn l (dn l c 1) n
  | 0 => by simp [dn]
  | c + 1 => by
    simp only [dn, if_neg (show (1 : Nat) ≠ 0 by omega), if_neg (show n + 1 ≠ 0 by omega)]
    cases hx : l.getD c false with
    | true => simp [dn_zero]
    | false =>
      simp only [Bool.false_eq_true, if_false]
      exact dn_succ l n c

theorem next_nat {l : List Bool} {c n : Nat} (h1 : c < l.length) (hn : 1 ≤ n) : nextF l c n = up l (l.length - 1 - c) c n := by
  unfold nextF clampC clampN
  rw [show min (Int.toNat (c : Int)) (l.length - 1) = c by simp; omega, show (max (n : Int) 1).toNat = n by omega]
theorem prev_nat {l : List Bool} {c n : Nat} (h1 : c < l.length) (hn : 1 ≤ n) : prevF l c n = dn l c n := by
  unfold prevF clampC clampN
  rw [show min (Int.toNat (c : Int)) (l.length - 1) = c by simp; omega, show (max (n : Int) 1).toNat = n by omega]
/-- So many single steps on. -/
def ups (l : List Bool) : Nat → Nat → Nat
  | 0, c => c
  | n + 1, c => nextF l (ups l n c : Nat) 1
def dns (l : List Bool) : Nat → Nat → Nat
  | 0, c => c
  | n + 1, c => prevF l (dns l n c : Nat) 1
theorem nextF_lt {l : List Bool} {c n : Nat} (h1 : c < l.length) (hn : 1 ≤ n) : nextF l c n < l.length := by
  rw [next_nat h1 hn]; have := (up_le l (l.length - 1 - c) c n).2; omega
theorem ups_lt {l : List Bool} {c : Nat} (h : c < l.length) : ∀ n, ups l n c < l.length
  | 0 => h
  | n + 1 => nextF_lt (n := 1) (ups_lt h n) (by omega)
theorem prevF_lt {l : List Bool} {c n : Nat} (h1 : c < l.length) (hn : 1 ≤ n) : prevF l c n < l.length := by
  rw [prev_nat h1 hn]; have := dn_le l c n; omega
theorem dns_lt {l : List Bool} {c : Nat} (h : c < l.length) : ∀ n, dns l n c < l.length
  | 0 => h
  | n + 1 => prevF_lt (n := 1) (dns_lt h n) (by omega)
theorem ups_shift (l : List Bool) (n c : Nat) : ups l (n + 1) c = ups l n (nextF l c 1) := by
  induction n with
  | zero => rfl
  | succ n ih => simp only [ups] at ih ⊢; rw [ih]
theorem dns_shift (l : List Bool) (n c : Nat) : dns l (n + 1) c = dns l n (prevF l c 1) := by
  induction n with
  | zero => rfl
  | succ n ih => simp only [dns] at ih ⊢; rw [ih]
theorem next_ups {l : List Bool} (n : Nat) : ∀ {c : Nat}, c < l.length → nextF l c ((n + 1 : Nat) : Int) = ups l (n + 1) c := by
  induction n with
  | zero => intro c h; rfl
  | succ n ih =>
    intro c h
    have h1 : nextF l c 1 < l.length := nextF_lt (n := 1) h (by omega)
    rw [ups_shift, ← ih h1, next_nat h (by omega), up_succ, next_nat h1 (by omega)]
    have e : up l (l.length - 1 - c) c 1 = nextF l c 1 := (next_nat (n := 1) h (by omega)).symm
    rw [e, show c + (l.length - 1 - c) - nextF l c 1 = l.length - 1 - nextF l c 1 by omega]
theorem prev_dns {l : List Bool} (n : Nat) : ∀ {c : Nat}, c < l.length → prevF l c ((n + 1 : Nat) : Int) = dns l (n + 1) c := by
  induction n with
  | zero => intro c h; rfl
  | succ n ih =>
    intro c h
    have h1 : prevF l c 1 < l.length := prevF_lt (n := 1) h (by omega)
    rw [dns_shift, ← ih h1, prev_nat h (by omega), dn_succ, prev_nat h1 (by omega)]
    rw [show dn l c 1 = prevF l c 1 from (prev_nat (n := 1) h (by omega)).symm]

theorem stopsFrom_mem : ∀ (l : List Bool) (i x : Nat), x ∈ stopsFrom i l → i ≤ x ∧ x < i + l.length ∧ l.getD (x - i) false = true
  | [], i, x, h => by simp [stopsFrom] at h
  | y :: r, i, x, h => by
    have ih := stopsFrom_mem r (i + 1) x
    cases y with
    | true =>
      simp only [stopsFrom, if_true, List.mem_cons] at h
      rcases h with rfl | h
      · simp
      · have := ih h
        refine ⟨by omega, by simp; omega, ?_⟩
        rw [show x - i = (x - (i + 1)) + 1 by omega]
        simpa using this.2.2
    | false =>
      simp only [stopsFrom, Bool.false_eq_true, if_false] at h
      have := ih h
      refine ⟨by omega, by simp; omega, ?_⟩
      rw [show x - i = (x - (i + 1)) + 1 by omega]
      simpa using this.2.2
theorem stopsOf_mem {l : List Bool} {x : Nat} (h : x ∈ stopsOf l) : x < l.length ∧ l.getD x false = true := by
  have := stopsFrom_mem l 0 x h
  simpa using this.2

theorem set_some (w : World) (b : Nat) (l : List Bool) (F : Nat → Prop) (c : Int) (h : Stops w b l F) :
    Calls Try.prog 9 #[.pointer (some ⟨b, 0, none⟩), .int .i64 c] w fun e w' =>
      e = .returned (.bool (decide (0 ≤ c ∧ c < l.length))) ∧ ∃ l', l'.length = l.length ∧ Upd (fun w F => Stops w b l' F) F w w' := by
  by_cases hc : 0 ≤ c ∧ c < l.length
  · obtain ⟨k, rfl⟩ := Int.eq_ofNat_of_zero_le hc.1
    refine (set_in w b l F k h (by omega)).mono ?_
    rintro e w' ⟨rfl, hu⟩
    exact ⟨by rw [decide_eq_true hc], _, by simp, hu⟩
  · refine (set_out w b l F c h (by omega)).mono ?_
    rintro e w' ⟨rfl, rfl⟩
    exact ⟨by rw [decide_eq_false hc], l, rfl, Chg.refl _ _, F, h, fun k hk => .inl hk⟩
end Go.Proofs.Ytadpjgjkicmhiaa
