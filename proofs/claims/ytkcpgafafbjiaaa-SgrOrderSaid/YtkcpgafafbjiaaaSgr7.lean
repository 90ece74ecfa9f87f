/-
  Chapter 9: there and back (plain).
-/
import Derived.Test.YtkcpgafafbjiaaaSgr6
namespace Go.Proofs.Ytkcpgafafbjiaaa
open Go.RowKit
set_option linter.unusedVariables false
set_option linter.unusedSimpArgs false

def isC (x : Int) : Prop := x = 38 ∨ x = 48
/-- Params that do not end amidst a colour. -/
def NoCut (l : List Int) : Prop := ∀ i, i < l.length → isC (l.getD i 0) → i + 4 < l.length ∧ (l.getD (i + 1) 0 = 5 ∨ l.getD (i + 1) 0 = 2)
theorem NoCut.drop {l : List Int} (h : NoCut l) (k : Nat) : NoCut (l.drop k) := by
  intro i hi hc
  rw [List.length_drop] at hi ⊢
  have e : ∀ j, (l.drop k).getD j 0 = l.getD (k + j) 0 := fun j => by simp [List.getD]
  rw [e] at hc ⊢
  have := h (k + i) (by omega) hc
  rw [show k + (i + 1) = k + i + 1 by omega]
  exact ⟨by omega, this.2⟩
theorem applyR_fuel : ∀ (k k' : Nat) (a : Int × Int × Int) (l : List Int), l.length ≤ k → l.length ≤ k' → applyR k a l = applyR k' a l
  | k, k', a, [], _, _ => by rw [applyR_nil, applyR_nil]
  | 0, _, a, n :: t, h, _ => by simp at h
  | _, 0, a, n :: t, _, h => by simp at h
  | k + 1, k' + 1, a, n :: t, h, h' => by
    simp at h h'
    simp only [applyR]
    split
    · exact applyR_fuel k k' _ t h h'
    · split
      · rfl
      · exact applyR_fuel k k' _ _ (by rw [List.length_drop]; omega) (by rw [List.length_drop]; omega)
theorem used_app {t p : List Int} (h4 : 4 ≤ t.length) (h : t.getD 0 0 = 5 ∨ t.getD 0 0 = 2) : usedF (t ++ p) = usedF t ∧ usedF t ≠ 0 ∧ givenF (t ++ p) = givenF t := by
  have e0 : (t ++ p).getD 0 0 = t.getD 0 0 := by simp [List.getD, List.getElem?_append_left (show 0 < t.length by omega)]
  have eu : usedF (t ++ p) = usedF t := by
    unfold usedF
    rw [e0, List.length_append]
    rcases h with h | h
    · rw [h, if_pos (by omega), if_pos (by omega)]
    · rw [h, if_neg (by omega), if_pos (by omega), if_neg (by omega), if_pos (by omega)]
  have hne : usedF t ≠ 0 ∧ usedF t ≤ 4 := by
    unfold usedF
    rcases h with h | h
    · rw [h, if_pos (by omega)]; omega
    · rw [h, if_neg (by omega), if_pos (by omega)]; omega
  refine ⟨eu, hne.1, ?_⟩
  unfold givenF
  rw [eu, List.take_append_of_le_length (by omega)]
theorem applyR_app : ∀ (k : Nat) (l p : List Int) (a : Int × Int × Int) (K : Nat), NoCut l → l.length ≤ k → (l ++ p).length ≤ K → applyR K a (l ++ p) = applyR p.length (applyR k a l) p
  | k, [], p, a, K, _, _, h => by rw [applyR_nil]; exact applyR_fuel _ _ _ _ h (Nat.le_refl _)
  | 0, n :: t, p, a, K, _, h, _ => by simp at h
  | k + 1, n :: t, p, a, 0, _, _, h => by simp at h
  | k + 1, n :: t, p, a, K + 1, hc, h, hK => by
    simp at h hK
    simp only [List.cons_append, applyR]
    have ht : NoCut t := hc.drop 1
    split
    · exact applyR_app k t p _ K ht h (by simp; omega)
    · rename_i hn
      have h0 := hc 0 (by simp) (by show n = 38 ∨ n = 48; omega)
      simp at h0
      obtain ⟨u1, u2, u3⟩ := used_app (t := t) (p := p) (by omega) (by simpa [List.getD] using h0.2)
      rw [u1, u3, if_neg u2, if_neg u2, List.drop_append_of_le_length (usedF_le t)]
      exact applyR_app k (t.drop (usedF t)) p _ K (ht.drop _) (by rw [List.length_drop]; omega) (by rw [List.length_append, List.length_drop]; omega)

theorem flags_fold : ∀ f : Fin 256, (flagsL (f.val : Int)).foldl setF 0 = (f.val : Int) := by decide +kernel
theorem flagsL_mem {f n : Int} (h : n ∈ flagsL f) : 1 ≤ n ∧ n ≤ 9 := by
  have := (List.mem_filter.1 h).1
  simp at this
  omega
theorem applyR_flags : ∀ (l p : List Int) (s : Int) (K : Nat), (∀ n ∈ l, 1 ≤ n ∧ n ≤ 9) → (l ++ p).length ≤ K → applyR K (s, 0, 0) (l ++ p) = applyR p.length (l.foldl setF s, 0, 0) p
  | [], p, s, K, _, h => applyR_fuel _ _ _ _ h (Nat.le_refl _)
  | n :: t, p, s, 0, _, h => by simp at h
  | n :: t, p, s, K + 1, hn, h => by
    have hb := hn n (by simp)
    simp only [List.cons_append, applyR]
    rw [if_pos (by omega)]
    have e : oneF (s, 0, 0) n = (setF s n, 0, 0) := by
      unfold oneF
      have c1 : (colF n 30 90).2 = false := by unfold colF; rw [if_neg (by omega), if_neg (by omega), if_neg (by omega)]
      have c2 : (colF n 40 100).2 = false := by unfold colF; rw [if_neg (by omega), if_neg (by omega), if_neg (by omega)]
      rw [if_neg (by omega)]; simp [c1, c2]
    rw [e]
    exact applyR_flags t p (setF s n) K (fun m hm => hn m (by simp [hm])) (by simpa using h)
theorem applyR_named {a : Int × Int × Int} {c : Int} (w : Int) (hw : isC w) (hc : mayC c = true) (h0 : (if w = 38 then a.2.1 else a.2.2) = 0) (p : List Int) (K : Nat) (hK : (namedF w c ++ p).length ≤ K) :
    applyR K a (namedF w c ++ p) = applyR p.length (if w = 38 then (a.1, c, a.2.2) else (a.1, a.2.1, c)) p := by
  have hcb : (0 ≤ c ∧ c ≤ 256) ∨ (16777216 ≤ c ∧ c < 33554432) := by simpa [mayC] using hc
  have hn : ¬ (w ≠ 38 ∧ w ≠ 48) := by unfold isC at hw; omega
  by_cases c1 : 16777216 ≤ c
  · have e : namedF w c = [w, 2, c / 65536 % 256, c / 256 % 256, c % 256] := by unfold namedF; rw [if_pos c1]
    rw [e] at hK ⊢
    obtain ⟨K, rfl⟩ : ∃ k, K = k + 1 := ⟨K - 1, by simp at hK; omega⟩
    simp only [List.cons_append, List.nil_append, applyR]
    rw [if_neg hn]
    have hu : usedF (2 :: (c / 65536 % 256) :: (c / 256 % 256) :: (c % 256) :: p) = 4 := by unfold usedF; simp [List.getD]
    have hg : givenF (2 :: (c / 65536 % 256) :: (c / 256 % 256) :: (c % 256) :: p) = (c, 4, true) := by
      unfold givenF
      rw [hu, if_neg (by decide)]
      have ha : accF 0 (((2 :: (c / 65536 % 256) :: (c / 256 % 256) :: (c % 256) :: p : List Int).take 4).drop 1) = some (c - 16777216) := by
        show accF 0 [c / 65536 % 256, c / 256 % 256, c % 256] = _
        simp only [accF]
        rw [if_neg (by omega), if_neg (by omega), if_neg (by omega), if_neg (by omega), if_neg (by omega), if_neg (by omega)]
        congr 1; omega
      rw [ha]
      show (if (4 : Nat) = 2 then 1 + (c - 16777216) else 16777216 + (c - 16777216), 4, true) = _
      rw [if_neg (by decide)]
      congr 1; omega
    rw [hu, hg, if_neg (by decide)]
    simp only [if_true]
    exact applyR_fuel _ _ _ _ (by simp at hK ⊢; omega) (by simp)
  · by_cases c2 : 0 < c
    · have e : namedF w c = [w, 5, c - 1] := by unfold namedF; rw [if_neg c1, if_pos c2]
      rw [e] at hK ⊢
      obtain ⟨K, rfl⟩ : ∃ k, K = k + 1 := ⟨K - 1, by simp at hK; omega⟩
      simp only [List.cons_append, List.nil_append, applyR]
      rw [if_neg hn]
      have hu : usedF (5 :: (c - 1) :: p) = 2 := by unfold usedF; simp [List.getD]
      have hg : givenF (5 :: (c - 1) :: p) = (c, 2, true) := by
        unfold givenF
        rw [hu, if_neg (by decide)]
        have ha : accF 0 (((5 :: (c - 1) :: p : List Int).take 2).drop 1) = some (c - 1) := by
          show accF 0 [c - 1] = _
          simp only [accF]
          rw [if_neg (by omega), if_neg (by omega)]
          congr 1; omega
        rw [ha]
        show (if (2 : Nat) = 2 then 1 + (c - 1) else 16777216 + (c - 1), 2, true) = _
        rw [if_pos rfl]
        congr 1; omega
      rw [hu, hg, if_neg (by decide)]
      simp only [if_true]
      exact applyR_fuel _ _ _ _ (by simp at hK ⊢; omega) (by simp)
    · have e : namedF w c = [] := by unfold namedF; rw [if_neg c1, if_neg c2]
      rw [e] at hK ⊢
      have hc0 : c = 0 := by omega
      subst hc0
      rw [List.nil_append] at hK ⊢
      have ea : (if w = 38 then (a.1, (0 : Int), a.2.2) else (a.1, a.2.1, (0 : Int))) = a := by
        obtain ⟨x, y, z⟩ := a
        split at h0 <;> simp_all
      rw [ea]
      exact applyR_fuel _ _ _ _ hK (Nat.le_refl _)
/-- Params of a look make it of whatever was. -/
theorem params_back {f g b : Int} (h : mayF f g b = true) (a : Int × Int × Int) (K : Nat) (hK : (paramsF f g b).length ≤ K) : applyR K a (paramsF f g b) = (f, g, b) := by
  have hf : 0 ≤ f ∧ f ≤ 255 := by simp [mayF] at h; omega
  have hg : mayC g = true := by simp [mayF] at h; exact h.1.2
  have hb : mayC b = true := by simp [mayF] at h; exact h.2
  have hfold : (flagsL f).foldl setF 0 = f := by
    have := flags_fold ⟨f.toNat, by omega⟩
    simp only at this
    rwa [Int.toNat_of_nonneg hf.1] at this
  have e : paramsF f g b = 0 :: (flagsL f ++ (namedF 38 g ++ (namedF 48 b ++ []))) := by unfold paramsF; rw [if_pos h]; simp
  rw [e] at hK ⊢
  obtain ⟨K, rfl⟩ : ∃ k, K = k + 1 := ⟨K - 1, by simp at hK; omega⟩
  simp only [applyR]
  rw [if_pos (by decide)]
  have e0 : oneF a 0 = (0, 0, 0) := by unfold oneF; rw [if_pos (by decide), if_pos (by decide)]
  rw [e0, applyR_flags _ _ _ _ (fun n hn => flagsL_mem hn) (by simpa using hK), hfold, applyR_named 38 (.inl rfl) hg (by simp) _ _ (Nat.le_refl _), applyR_named 48 (.inr rfl) hb (by simp) _ _ (Nat.le_refl _)]
  rfl
end Go.Proofs.Ytkcpgafafbjiaaa
