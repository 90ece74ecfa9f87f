/-
  UTF-8 in plain Lean: the signs of a string are those that its bytes tell; titles.
-/
import Derived.Test.YtmbdpcamhkdkmaaGreatDoorPUM
namespace Go.Proofs.YtmbdpcamhkdkmaaGreatDoor
open Go.RowKit
set_option linter.unusedVariables false
set_option linter.unusedSimpArgs false

theorem str_get (xs : List Int) (i : Nat) (h : i < xs.length) (hb : 0 ≤ xs.getD i 0 ∧ xs.getD i 0 ≤ 255) : ((strOfNums xs).get! i).toNat = (xs.getD i 0).toNat := by
  have e : (strOfNums xs).get! i = UInt8.ofNat (xs.getD i 0).toNat := by
    show (strOfNums xs).data[i]! = _
    have h2 : i < (strOfNums xs).data.size := by simpa [strOfNums] using h
    rw [getElem!_pos _ i h2]
    simp [strOfNums, List.getD, h]
  rw [e, UInt8.toNat_ofNat']
  omega
theorem getD_mid {pre l post : List Int} {k : Nat} (h : k < l.length) : (pre ++ l ++ post).getD (pre.length + k) 0 = l.getD k 0 := by
  rw [List.append_assoc]
  simp [List.getD, List.getElem?_append_right, List.getElem?_append_left, h]
theorem mid_at {pre l post : List Int} {k : Nat} (h : k < l.length) (hb : 0 ≤ l.getD k 0 ∧ l.getD k 0 ≤ 255) : ((strOfNums (pre ++ l ++ post)).get! (pre.length + k)).toNat = (l.getD k 0).toNat := by
  have e := getD_mid (pre := pre) (post := post) h
  rw [str_get _ _ (by simp only [List.length_append]; omega) (by rw [e]; exact hb), e]
theorem dec_enc {s : Int} (h : isSign s = true) (pre post : List Int) : Utf8.decode (strOfNums (pre ++ encS s ++ post)) pre.length = (s.toNat, (encS s).length) := by
  obtain ⟨h0, h1, h2⟩ := isSign_b h
  obtain ⟨n, rfl⟩ := Int.eq_ofNat_of_zero_le h0
  have hsz : (strOfNums (pre ++ encS n ++ post)).size = pre.length + (encS n).length + post.length := by rw [strOfNums_size]; simp only [List.length_append]
  have hv : Utf8.valid (n : Int) = true := by simp [Utf8.valid]; omega
  unfold Utf8.decode
  simp only [hsz]
  by_cases c1 : n < 128
  · have e : encS n = [(n : Int)] := by unfold encS; rw [if_pos (by omega)]
    have g0 := mid_at (pre := pre) (post := post) (l := [(n : Int)]) (k := 0) (by simp) (by simp; omega)
    rw [e]
    simp only [g0]
    simp; omega
  · by_cases c2 : n < 2048
    · have e : encS n = [192 + (n : Int) / 64, 128 + (n : Int) % 64] := by unfold encS; rw [if_neg (by omega), if_pos (by omega)]
      have g0 := mid_at (pre := pre) (post := post) (l := [192 + (n : Int) / 64, 128 + (n : Int) % 64]) (k := 0) (by simp) (by simp; omega)
      have g1 := mid_at (pre := pre) (post := post) (l := [192 + (n : Int) / 64, 128 + (n : Int) % 64]) (k := 1) (by simp) (by simp; omega)
      simp only [List.getD_cons_zero, List.getD_cons_succ] at g0 g1
      have f0 : (192 + (n : Int) / 64).toNat = 192 + n / 64 := by omega
      have f1 : (128 + (n : Int) % 64).toNat = 128 + n % 64 := by omega
      rw [f0] at g0
      rw [f1] at g1
      rw [e]
      simp only [g0, g1, List.length_cons, List.length_nil]
      have t0 : ¬ (192 + n / 64 < 128) := by omega
      have t1 : (192 + n / 64) / 32 = 6 := by omega
      have t2 : pre.length + 1 < pre.length + 2 + post.length := by omega
      have t3 : (128 + n % 64) / 64 = 2 := by omega
      have t4 : (192 + n / 64) % 32 * 64 + (128 + n % 64) % 64 = n := by omega
      simp only [Nat.zero_add, Nat.reduceAdd, t4]
      simp [t0, t1, t2, t3, t4, show 128 ≤ n by omega]
    · by_cases c3 : n < 65536
      · have e : encS n = [224 + (n : Int) / 4096, 128 + (n : Int) / 64 % 64, 128 + (n : Int) % 64] := by unfold encS; rw [if_neg (by omega), if_neg (by omega), if_pos (by omega)]
        have g0 := mid_at (pre := pre) (post := post) (l := [224 + (n : Int) / 4096, 128 + (n : Int) / 64 % 64, 128 + (n : Int) % 64]) (k := 0) (by simp) (by simp; omega)
        have g1 := mid_at (pre := pre) (post := post) (l := [224 + (n : Int) / 4096, 128 + (n : Int) / 64 % 64, 128 + (n : Int) % 64]) (k := 1) (by simp) (by simp; omega)
        have g2 := mid_at (pre := pre) (post := post) (l := [224 + (n : Int) / 4096, 128 + (n : Int) / 64 % 64, 128 + (n : Int) % 64]) (k := 2) (by simp) (by simp; omega)
        simp only [List.getD_cons_zero, List.getD_cons_succ] at g0 g1 g2
        have f0 : (224 + (n : Int) / 4096).toNat = 224 + n / 4096 := by omega
        have f1 : (128 + (n : Int) / 64 % 64).toNat = 128 + n / 64 % 64 := by omega
        have f2 : (128 + (n : Int) % 64).toNat = 128 + n % 64 := by omega
        rw [f0] at g0
        rw [f1] at g1
        rw [f2] at g2
        rw [e]
        simp only [g0, g1, g2, List.length_cons, List.length_nil]
        have t0 : ¬ (224 + n / 4096 < 128) := by omega
        have t1 : ¬ (224 + n / 4096) / 32 = 6 := by omega
        have t1' : (224 + n / 4096) / 16 = 14 := by omega
        have t2 : pre.length + 1 < pre.length + 3 + post.length := by omega
        have t2' : pre.length + 2 < pre.length + 3 + post.length := by omega
        have t3 : (128 + n / 64 % 64) / 64 = 2 := by omega
        have t3' : (128 + n % 64) / 64 = 2 := by omega
        have t4 : (224 + n / 4096) % 16 * 4096 + (128 + n / 64 % 64) % 64 * 64 + (128 + n % 64) % 64 = n := by omega
        simp only [Nat.zero_add, Nat.reduceAdd, t4]
        simp [t0, t1, t1', t2, t2', t3, t3', t4, hv, show 2048 ≤ n by omega]
      · have e : encS n = [240 + (n : Int) / 262144, 128 + (n : Int) / 4096 % 64, 128 + (n : Int) / 64 % 64, 128 + (n : Int) % 64] := by unfold encS; rw [if_neg (by omega), if_neg (by omega), if_neg (by omega)]
        have g0 := mid_at (pre := pre) (post := post) (l := [240 + (n : Int) / 262144, 128 + (n : Int) / 4096 % 64, 128 + (n : Int) / 64 % 64, 128 + (n : Int) % 64]) (k := 0) (by simp) (by simp; omega)
        have g1 := mid_at (pre := pre) (post := post) (l := [240 + (n : Int) / 262144, 128 + (n : Int) / 4096 % 64, 128 + (n : Int) / 64 % 64, 128 + (n : Int) % 64]) (k := 1) (by simp) (by simp; omega)
        have g2 := mid_at (pre := pre) (post := post) (l := [240 + (n : Int) / 262144, 128 + (n : Int) / 4096 % 64, 128 + (n : Int) / 64 % 64, 128 + (n : Int) % 64]) (k := 2) (by simp) (by simp; omega)
        have g3 := mid_at (pre := pre) (post := post) (l := [240 + (n : Int) / 262144, 128 + (n : Int) / 4096 % 64, 128 + (n : Int) / 64 % 64, 128 + (n : Int) % 64]) (k := 3) (by simp) (by simp; omega)
        simp only [List.getD_cons_zero, List.getD_cons_succ] at g0 g1 g2 g3
        have f0 : (240 + (n : Int) / 262144).toNat = 240 + n / 262144 := by omega
        have f0' : (128 + (n : Int) / 4096 % 64).toNat = 128 + n / 4096 % 64 := by omega
        have f1 : (128 + (n : Int) / 64 % 64).toNat = 128 + n / 64 % 64 := by omega
        have f2 : (128 + (n : Int) % 64).toNat = 128 + n % 64 := by omega
        rw [f0] at g0
        rw [f0'] at g1
        rw [f1] at g2
        rw [f2] at g3
        rw [e]
        simp only [g0, g1, g2, g3, List.length_cons, List.length_nil]
        have t0 : ¬ (240 + n / 262144 < 128) := by omega
        have t1 : ¬ (240 + n / 262144) / 32 = 6 := by omega
        have t1' : ¬ (240 + n / 262144) / 16 = 14 := by omega
        have t1'' : (240 + n / 262144) / 8 = 30 := by omega
        have t2 : pre.length + 1 < pre.length + 4 + post.length := by omega
        have t2' : pre.length + 2 < pre.length + 4 + post.length := by omega
        have t2'' : pre.length + 3 < pre.length + 4 + post.length := by omega
        have t3 : (128 + n / 64 % 64) / 64 = 2 := by omega
        have t3' : (128 + n % 64) / 64 = 2 := by omega
        have t3'' : (128 + n / 4096 % 64) / 64 = 2 := by omega
        have t4 : (240 + n / 262144) % 8 * 262144 + (128 + n / 4096 % 64) % 64 * 4096 + (128 + n / 64 % 64) % 64 * 64 + (128 + n % 64) % 64 = n := by omega
        simp only [Nat.zero_add, Nat.reduceAdd, t4]
        simp [t0, t1, t1', t1'', t2, t2', t2'', t3, t3', t3'', t4, hv, show 65536 ≤ n by omega]
theorem signsF_enc : ∀ (l : List Int), (∀ x ∈ l, isSign x = true) → ∀ (pre : List Int) (b : Nat), l.length ≤ b → signsF (strOfNums (pre ++ encL l)) b pre.length = l
  | [], _, pre, b, _ => by cases b <;> simp [signsF, encL, strOfNums_size]
  | s :: t, h, pre, b + 1, hb => by
    have hs := h s (by simp)
    have hf : fixR s = s := by unfold fixR; rw [if_pos hs]
    have he : pre ++ encL (s :: t) = pre ++ encS s ++ encL t := by simp [encL, encR, hf]
    have hd := dec_enc hs pre (encL t)
    have h1 := (encS_le s).1
    obtain ⟨n, rfl⟩ := Int.eq_ofNat_of_zero_le (isSign_b hs).1
    unfold signsF
    rw [he, if_pos (by rw [strOfNums_size]; simp only [List.length_append]; omega), hd]
    simp only [Int.toNat_natCast]
    congr 1
    have ih := signsF_enc t (fun x hx => h x (by simp [hx])) (pre ++ encS n) b (by simpa using hb)
    rw [List.length_append] at ih
    exact ih
theorem encL_ge (l : List Int) : l.length ≤ (encL l).length := by
  induction l with
  | nil => simp [encL]
  | cons a t ih => have := (encS_le (fixR a)).1; simp only [encL, List.flatMap_cons, List.length_append, List.length_cons, encR] at *; omega
theorem signsS_enc (l : List Int) (h : ∀ x ∈ l, isSign x = true) : signsS (strOfNums (encL l)) = l := by
  have := signsF_enc l h [] (strOfNums (encL l)).size (by rw [strOfNums_size]; exact encL_ge l)
  simpa [signsS] using this
def okSign (r : Int) : Bool := isSign r && decide (32 ≤ r) && !decide (127 ≤ r ∧ r ≤ 159)
/-- What the document says of a title: its bytes xs. -/
def titleR (xs : List Int) : Bool := decide ((runD [] xs).1 = []) && decide (encL (runD [] xs).2 = xs) && decide ((runD [] xs).2.length ≤ 64) && (runD [] xs).2.all okSign
theorem all_fix (l : List Int) : ∀ x ∈ l.map fixR, isSign x = true := fun x hx => by obtain ⟨y, _, rfl⟩ := List.mem_map.1 hx; exact fixR_sign y
theorem map_fix {l : List Int} (h : ∀ x ∈ l, isSign x = true) : l.map fixR = l := by
  induction l with
  | nil => rfl
  | cons a t ih => rw [List.map_cons, ih (fun x hx => h x (by simp [hx]))]; congr 1; unfold fixR; rw [if_pos (h a (by simp))]
theorem title_same (xs : List Int) (hx : ∀ x ∈ xs, 0 ≤ x ∧ x ≤ 255) : titleF (strOfNums xs) = titleR xs := by
  by_cases h : ∃ l, (∀ x ∈ l, isSign x = true) ∧ xs = encL l
  · obtain ⟨l, hl, rfl⟩ := h
    have h1 := run_encL l
    rw [map_fix hl] at h1
    unfold titleF titleR
    rw [h1, signsS_enc l hl, ← runes_enc]
    simp only [decide_true, Bool.true_and]
    congr 1
    rw [Bool.eq_iff_iff]
    simp only [List.all_eq_true, Bool.not_eq_true', List.any_eq_false]
    refine forall_congr' fun x => ⟨fun h hm => ?_, fun h hm => ?_⟩
    · have a := h hm
      have b := hl x hm
      simp [badF] at a
      simp [okSign, b]
      omega
    · have a := h hm
      simp [okSign] at a
      simp [badF]
      omega
  · have h1 : titleF (strOfNums xs) = false := by
      unfold titleF
      have : ¬ runesBytes (signsS (strOfNums xs)) = strOfNums xs := fun e => h ⟨(signsS (strOfNums xs)).map fixR, all_fix _, by
        rw [encL_fix]
        rw [← runes_enc] at e
        exact (strOfNums_inj (fun x hx => encL_byte _ x hx) hx e).symm⟩
      simp [this]
    have h2 : titleR xs = false := by
      unfold titleR
      have : ¬ encL (runD [] xs).2 = xs := fun e => h ⟨(runD [] xs).2.map fixR, all_fix _, by rw [encL_fix]; exact e.symm⟩
      simp [this]
    rw [h1, h2]
end Go.Proofs.YtmbdpcamhkdkmaaGreatDoor
