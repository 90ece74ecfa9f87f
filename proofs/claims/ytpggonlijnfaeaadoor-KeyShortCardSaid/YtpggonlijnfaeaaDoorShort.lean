/-
  KeyShort in plain Lean: how long the texts of screens of like cells are.
-/
import Derived.Test.YtpggonlijnfaeaaDoorKeyWrites
namespace Go.Proofs.YtpggonlijnfaeaaDoor
open Go.RowKit
set_option linter.unusedVariables false
set_option linter.unusedSimpArgs false

theorem varL_pos (n : Nat) : 1 ≤ (varL n).length := by
  by_cases h : n < 128
  · rw [varL_lt h]; simp
  · rw [varL_ge h]; simp
theorem varL_inj : ∀ (n m : Nat), varL n = varL m → n = m
  | n, m, h => by
    by_cases hn : n < 128
    · by_cases hm : m < 128
      · rw [varL_lt hn, varL_lt hm] at h
        have := (List.cons.inj h).1
        omega
      · rw [varL_lt hn, varL_ge hm] at h
        have := congrArg List.length h
        have p := varL_pos (m / 128)
        rw [List.length_singleton, List.length_cons] at this
        omega
    · by_cases hm : m < 128
      · rw [varL_ge hn, varL_lt hm] at h
        have := congrArg List.length h
        have p := varL_pos (n / 128)
        rw [List.length_singleton, List.length_cons] at this
        omega
      · rw [varL_ge hn, varL_ge hm] at h
        have h1 := (List.cons.inj h).1
        have h2 := varL_inj (n / 128) (m / 128) (List.cons.inj h).2
        omega
termination_by n => n
decreasing_by omega
theorem varL_len_lt {n : Nat} (h : 128 ≤ n) (h2 : n < 16384) : (varL n).length = 2 := by
  rw [varL_ge (by omega), varL_lt (by omega)]; rfl
/-- A run's bytes. -/
def runB (n : Nat) (c : Ce) : List Int := varsL (ceN n c)
def tailB (c : Ce) : List Int := varL (u64N c.f) ++ varL (u64N c.g) ++ varL (u64N c.b) ++ varL (u64N c.w)
theorem runB_eq (n : Nat) (c : Ce) : runB n c = varL (u64N n) ++ varL (u64N c.r) ++ tailB c := by simp [runB, ceN, varsL, tailB]
theorem runLen_rep (c : Ce) : ∀ n, runLen c (List.replicate n c) = n
  | 0 => rfl
  | n + 1 => by rw [List.replicate_succ, runLen, if_pos rfl, runLen_rep c n]
theorem runLen_app (c : Ce) {l : List Ce} (h : runLen c l = 0) : ∀ n, runLen c (List.replicate n c ++ l) = n
  | 0 => h
  | n + 1 => by rw [List.replicate_succ, List.cons_append, runLen, if_pos rfl, runLen_app c h n]
theorem runsL_app (c : Ce) {l : List Ce} (n : Nat) (h : runLen c l = 0) : runsL (List.replicate (n + 1) c ++ l) = runB (n + 1) c ++ runsL l := by
  rw [List.replicate_succ, List.cons_append, runsL, runLen_app c h]
  congr 1
  rw [List.drop_append_of_le_length (by simp), List.drop_eq_nil_of_le (by simp)]
  rfl
theorem runsL_rep (c : Ce) (n : Nat) : runsL (List.replicate (n + 1) c) = runB (n + 1) c := by
  have := runsL_app c (l := []) n rfl
  simpa [runsL] using this
theorem runLen_ne {c d : Ce} (h : d ≠ c) (l : List Ce) : runLen c (d :: l) = 0 := by rw [runLen, if_neg h]
/-- All cells are c, but the one at k, which is d. -/
def oneOff (m k : Nat) (c d : Ce) : List Ce := List.replicate k c ++ d :: List.replicate (m - k - 1) c
theorem runsL_one {c d : Ce} (h : d ≠ c) (n : Nat) : runsL (d :: List.replicate n c) = runB 1 d ++ runsL (List.replicate n c) := by
  have h0 : runLen d (List.replicate n c) = 0 := by cases n with
    | zero => rfl
    | succ n => exact runLen_ne (Ne.symm h) _
  exact runsL_app d (l := List.replicate n c) 0 h0
theorem runsL_off {m k : Nat} {c d : Ce} (h : d ≠ c) (hk : k < m) :
    runsL (oneOff m k c d) = (if k = 0 then [] else runB k c) ++ runB 1 d ++ (if m - k - 1 = 0 then [] else runB (m - k - 1) c) := by
  have e3 : runsL (List.replicate (m - k - 1) c) = if m - k - 1 = 0 then [] else runB (m - k - 1) c := by
    obtain ⟨j, hj⟩ : ∃ j, m - k - 1 = j := ⟨_, rfl⟩
    rw [hj]
    cases j with
    | zero => simp [runsL]
    | succ j => rw [if_neg (by omega), runsL_rep]
  unfold oneOff
  cases k with
  | zero => rw [List.replicate_zero, List.nil_append, runsL_one h, if_pos rfl, List.nil_append, e3]
  | succ k => rw [runsL_app c k (runLen_ne h _), runsL_one h, if_neg (by omega), e3, List.append_assoc]
theorem u64N_pos (n : Int) (h : 0 ≤ n) (h2 : n < 9223372036854775808) : u64N n = n.toNat := by simp only [u64N, IntKind.wrap, IntKind.bits, IntKind.signed]; simp; omega
/-- What is known of a cell that may be and is no half. -/
def Small (c : Ce) : Prop := 0 ≤ c.r ∧ c.r ≤ 1114111 ∧ 0 ≤ c.f ∧ c.f ≤ 255 ∧ 0 ≤ c.g ∧ c.g < 33554432 ∧ 0 ≤ c.b ∧ c.b < 33554432 ∧ c.w = 0
theorem small_of_may {c : Ce} (h : c.may = true) (hw : c.w = 0) : Small c := by
  unfold Ce.may at h
  rw [Bool.and_eq_true] at h
  obtain ⟨h1, h2⟩ := h
  unfold mayF2 at h1
  rw [if_pos (.inl hw), decide_eq_true_eq, hw] at h1
  have hr : 0 ≤ c.r ∧ c.r ≤ 1114111 := by
    unfold widthF at h1
    split at h1
    · omega
    · rename_i hn; omega
  simp only [mayF, mayC, Bool.and_eq_true, decide_eq_true_eq] at h2
  exact ⟨hr.1, hr.2, by omega, by omega, by omega, by omega, by omega, by omega, hw⟩
theorem tailB_len {c : Ce} (h : Small c) : 4 ≤ (tailB c).length ∧ (tailB c).length ≤ 11 := by
  obtain ⟨h1, h2, h3, h4, h5, h6, h7, h8, h9⟩ := h
  have a1 := varL_len 1 (u64N c.f) (by rw [u64N_pos _ h3 (by omega)]; omega)
  have a2 := varL_len 3 (u64N c.g) (by rw [u64N_pos _ h5 (by omega)]; omega)
  have a3 := varL_len 3 (u64N c.b) (by rw [u64N_pos _ h7 (by omega)]; omega)
  have a4 := varL_len 0 (u64N c.w) (by rw [h9]; decide)
  have b1 := varL_pos (u64N c.f)
  have b2 := varL_pos (u64N c.g)
  have b3 := varL_pos (u64N c.b)
  have b4 := varL_pos (u64N c.w)
  simp only [tailB, List.length_append]
  omega
theorem runB_len {n : Nat} {c : Ce} (h : Small c) (hn : n ≤ 12000) : (runB n c).length = (varL n).length + (varL (u64N c.r)).length + (tailB c).length ∧ 1 ≤ (varL n).length ∧ (varL n).length ≤ 2 ∧ 1 ≤ (varL (u64N c.r)).length ∧ (varL (u64N c.r)).length ≤ 3 := by
  have e : u64N (n : Int) = n := by rw [u64N_pos _ (by omega) (by omega)]; omega
  have a1 := varL_len 1 n (by omega)
  have a2 := varL_len 2 (u64N c.r) (by rw [u64N_pos _ h.1 (by have := h.2.1; omega)]; have := h.2.1; omega)
  refine ⟨?_, varL_pos n, a1, varL_pos _, a2⟩
  rw [runB_eq, e, List.length_append, List.length_append]
/-- The look with its second bit turned. -/
def turned (f : Int) : Int := bits .xor .i64 f 2
set_option maxRecDepth 100000 in
theorem turned_fin : ∀ k : Fin 256, 0 ≤ bits .xor .i64 ((k.val : Nat) : Int) 2 ∧ bits .xor .i64 ((k.val : Nat) : Int) 2 ≤ 255 ∧ bits .xor .i64 ((k.val : Nat) : Int) 2 ≠ ((k.val : Nat) : Int) ∧ (bits .xor .i64 ((k.val : Nat) : Int) 2 < 128 ↔ ((k.val : Nat) : Int) < 128) := by decide
theorem turned_b {f : Int} (h0 : 0 ≤ f) (h1 : f ≤ 255) : 0 ≤ turned f ∧ turned f ≤ 255 ∧ turned f ≠ f ∧ (turned f < 128 ↔ f < 128) := by
  obtain ⟨n, rfl⟩ := Int.eq_ofNat_of_zero_le h0
  exact turned_fin ⟨n, by omega⟩
def Ce.turn (c : Ce) : Ce := { c with f := turned c.f }
theorem turn_ne {c : Ce} (h : Small c) : c.turn ≠ c := fun e => (turned_b h.2.2.1 h.2.2.2.1).2.2.1 (congrArg Ce.f e)
theorem turn_small {c : Ce} (h : Small c) : Small c.turn := by
  obtain ⟨h1, h2, h3, h4, h5, h6, h7, h8, h9⟩ := h
  obtain ⟨t1, t2, _⟩ := turned_b h3 h4
  exact ⟨h1, h2, t1, t2, h5, h6, h7, h8, h9⟩
theorem turn_may {c : Ce} (h : c.may = true) (hw : c.w = 0) : c.turn.may = true := by
  have hs := small_of_may h hw
  obtain ⟨t1, t2, _⟩ := turned_b hs.2.2.1 hs.2.2.2.1
  unfold Ce.may at h ⊢
  rw [Bool.and_eq_true] at h ⊢
  refine ⟨h.1, ?_⟩
  have h2 := h.2
  simp only [mayF, Bool.and_eq_true, decide_eq_true_eq] at h2 ⊢
  exact ⟨⟨⟨t1, t2⟩, h2.1.2⟩, h2.2⟩
theorem len_small {f g : Int} (hf : 0 ≤ f ∧ f ≤ 255) (hg : 0 ≤ g ∧ g ≤ 255) (h : f < 128 ↔ g < 128) : (varL (u64N f)).length = (varL (u64N g)).length := by
  rw [u64N_pos f hf.1 (by omega), u64N_pos g hg.1 (by omega)]
  by_cases h1 : f < 128
  · have h2 := h.1 h1
    rw [varL_lt (by omega), varL_lt (by omega)]; rfl
  · have h2 : ¬ g < 128 := fun e => h1 (h.2 e)
    rw [varL_len_lt (by omega) (by omega), varL_len_lt (by omega) (by omega)]
theorem turn_tail {c : Ce} (h : Small c) : (tailB c.turn).length = (tailB c).length := by
  obtain ⟨t1, t2, _, t4⟩ := turned_b h.2.2.1 h.2.2.2.1
  have e := len_small (f := turned c.f) (g := c.f) ⟨t1, t2⟩ ⟨h.2.2.1, h.2.2.2.1⟩ t4
  simp only [tailB, List.length_append, Ce.turn]
  omega
theorem head_len {rn cn : Nat} (h : 1 ≤ rn ∧ rn ≤ 60 ∧ 1 ≤ cn ∧ cn ≤ 200) : (varsL (headN rn cn 0 0 false ByteArray.empty)).length ≤ 8 := by
  have e1 : u64N (rn : Int) = rn := by rw [u64N_pos _ (by omega) (by omega)]; omega
  have e2 : u64N (cn : Int) = cn := by rw [u64N_pos _ (by omega) (by omega)]; omega
  have a1 := varL_len 0 rn (by omega)
  have a2 := varL_len 1 cn (by omega)
  have z : u64N 0 = 0 := by decide
  have z1 : (varL 0).length = 1 := by rw [varL_lt (by omega)]; rfl
  simp only [headN, varsL, List.flatMap_cons, List.flatMap_nil, List.length_append, e1, e2, z, bitN, List.length_nil, Bool.false_eq_true, if_false]
  have z2 : u64N ((ByteArray.empty.size : Nat) : Int) = 0 := by decide
  rw [z2, z1]
  omega
/-- What KeyShort asks of the three texts. -/
theorem short_all {rn cn m k : Nat} {c : Ce} (h : 1 ≤ rn ∧ rn ≤ 60 ∧ 1 ≤ cn ∧ cn ≤ 200) (hm : 1 ≤ m ∧ m ≤ 12000) (hs : Small c) (hk : k < m) :
    (keyL rn cn (List.replicate m .blank) 0 0 false ByteArray.empty).length ≤ 18 ∧ (keyL rn cn (List.replicate m c) 0 0 false ByteArray.empty).length ≤ 32 ∧ (keyL rn cn (oneOff m k c c.turn) 0 0 false ByteArray.empty).length ≤ 72 ∧
    (m = 1 ∨ (keyL rn cn (List.replicate m c) 0 0 false ByteArray.empty).length < (keyL rn cn (oneOff m k c c.turn) 0 0 false ByteArray.empty).length) ∧ keyL rn cn (List.replicate m c) 0 0 false ByteArray.empty ≠ keyL rn cn (oneOff m k c c.turn) 0 0 false ByteArray.empty := by
  have hh := head_len h
  have hbs : Small .blank := by unfold Small; decide
  obtain ⟨j, rfl⟩ : ∃ j, m = j + 1 := ⟨m - 1, by omega⟩
  have ts := turn_small hs
  have tl := tailB_len hs
  have tt := turn_tail hs
  have eb : (tailB .blank).length = 4 := by
    have z : u64N 0 = 0 := by decide
    have z1 : (varL 0).length = 1 := by rw [varL_lt (by omega)]; rfl
    simp only [tailB, Ce.blank, z, List.length_append, z1]
  have erb : (varL (u64N Ce.blank.r)).length = 1 := by
    have z : u64N Ce.blank.r = 32 := by decide
    rw [z, varL_lt (by omega)]; rfl
  have l1 := runB_len (n := j + 1) hbs hm.2
  have l2 := runB_len (n := j + 1) hs hm.2
  have l3 := runB_len (n := k) hs (by omega)
  have l4 := runB_len (n := 1) ts (by omega)
  have l5 := runB_len (n := j + 1 - k - 1) hs (by omega)
  have er : c.turn.r = c.r := rfl
  rw [er] at l4
  have hne := turn_ne hs
  have k1 : (keyL rn cn (List.replicate (j + 1) .blank) 0 0 false ByteArray.empty).length = (varsL (headN rn cn 0 0 false ByteArray.empty)).length + (runB (j + 1) .blank).length := by
    rw [keyL, runsL_rep, numsS_empty, List.append_nil, List.length_append]
  have k2 : (keyL rn cn (List.replicate (j + 1) c) 0 0 false ByteArray.empty).length = (varsL (headN rn cn 0 0 false ByteArray.empty)).length + (runB (j + 1) c).length := by
    rw [keyL, runsL_rep, numsS_empty, List.append_nil, List.length_append]
  have k3 : (keyL rn cn (oneOff (j + 1) k c c.turn) 0 0 false ByteArray.empty).length = (varsL (headN rn cn 0 0 false ByteArray.empty)).length + ((if k = 0 then [] else runB k c) ++ runB 1 c.turn ++ (if j + 1 - k - 1 = 0 then [] else runB (j + 1 - k - 1) c)).length := by
    rw [keyL, runsL_off hne hk, numsS_empty, List.append_nil, List.length_append]
  have i3 : (if k = 0 then ([] : List Int) else runB k c).length = if k = 0 then 0 else (runB k c).length := by split <;> rfl
  have i5 : (if j + 1 - k - 1 = 0 then ([] : List Int) else runB (j + 1 - k - 1) c).length = if j + 1 - k - 1 = 0 then 0 else (runB (j + 1 - k - 1) c).length := by split <;> rfl
  rw [List.length_append, List.length_append, i3, i5] at k3
  have kl : j + 1 = 1 ∨ (keyL rn cn (List.replicate (j + 1) c) 0 0 false ByteArray.empty).length < (keyL rn cn (oneOff (j + 1) k c c.turn) 0 0 false ByteArray.empty).length := by
    by_cases hj : j = 0
    · left; omega
    · right
      rw [k2, k3]
      split <;> split <;> omega
  refine ⟨by omega, by omega, ?_, kl, ?_⟩
  · rw [k3]
    split <;> split <;> omega
  · intro e
    rcases kl with h1 | h1
    · obtain rfl : j = 0 := by omega
      obtain rfl : k = 0 := by omega
      rw [keyL, keyL, runsL_rep, runsL_off hne hk] at e
      have e2 := List.append_cancel_left e
      simp only [if_true, List.nil_append, List.append_nil, Nat.zero_add, Nat.sub_zero, Nat.sub_self] at e2
      rw [runB_eq, runB_eq, er] at e2
      have e3 := List.append_cancel_left e2
      simp only [tailB, List.append_assoc] at e3
      have e4 : varL (u64N c.f) = varL (u64N c.turn.f) := List.append_cancel_right (show varL (u64N c.f) ++ (varL (u64N c.g) ++ (varL (u64N c.b) ++ varL (u64N c.w))) = varL (u64N c.turn.f) ++ (varL (u64N c.g) ++ (varL (u64N c.b) ++ varL (u64N c.w))) from e3)
      have e5 := varL_inj _ _ e4
      obtain ⟨t1, t2, t3, _⟩ := turned_b hs.2.2.1 hs.2.2.2.1
      have f0 := hs.2.2.1
      have f1 := hs.2.2.2.1
      rw [u64N_pos _ hs.2.2.1 (by omega), show c.turn.f = turned c.f from rfl, u64N_pos _ t1 (by omega)] at e5
      omega
    · rw [e] at h1; omega
end Go.Proofs.YtpggonlijnfaeaaDoor
