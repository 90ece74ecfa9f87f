/-
  Chapter 9: may a look be; the params of a look.
-/
import Derived.Test.YtkcpgafafbjiaaaSgr2
namespace Go.Proofs.Ytkcpgafafbjiaaa
open Go.RowKit
set_option linter.unusedVariables false
set_option linter.unusedSimpArgs false

def mayC (n : Int) : Bool := decide ((0 ≤ n ∧ n ≤ 256) ∨ (16777216 ≤ n ∧ n < 33554432))
def mayF (f g b : Int) : Bool := decide (0 ≤ f ∧ f ≤ 255) && mayC g && mayC b
set_option maxHeartbeats 4000000 in
theorem mayc_any (w : World) (n : Int) : Calls Try.prog 13 #[.int .i64 n] w fun e w' => e = .returned (.bool (mayC n)) ∧ w' = w := by
  rcases (show n < 0 ∨ (0 ≤ n ∧ n ≤ 256) ∨ (256 < n ∧ n < 16777216) ∨ (16777216 ≤ n ∧ n < 33554432) ∨ 33554432 ≤ n by omega) with h | ⟨h, h'⟩ | ⟨h, h'⟩ | ⟨h, h'⟩ | h
  all_goals
    go_enter Try.func13, Try.ntmps13
    go_wp2
  all_goals go_ret
  all_goals (refine ⟨?_, rfl⟩; show Ending.returned (Value.bool _) = _; congr 2; rw [Bool.eq_iff_iff]; simp [mayC]; try omega)
set_option maxHeartbeats 4000000 in
theorem may_any (w : World) (f g b : Int) : Calls Try.prog 7 #[lookV f g b] w fun e w' => e = .returned (.bool (mayF f g b)) ∧ Chg w w' nob := by
  obtain ⟨k1, e1⟩ : ∃ k, mayC g = k := ⟨_, rfl⟩
  obtain ⟨k2, e2⟩ : ∃ k, mayC b = k := ⟨_, rfl⟩
  have hm : mayF f g b = (decide (0 ≤ f ∧ f ≤ 255) && k1 && k2) := by unfold mayF; rw [e1, e2]
  rw [hm]
  clear hm
  have E1 := Lib.hid e1
  have E2 := Lib.hid e2
  clear e1 e2
  rcases (show f < 0 ∨ 255 < f ∨ (0 ≤ f ∧ f ≤ 255) by omega) with h | h | ⟨h, h'⟩
  · have hd : Hid (decide (0 ≤ f ∧ f ≤ 255) = false) := Lib.hid (by simp; omega)
    rw [hd.out]
    go_enter Try.func7, Try.ntmps7
    go_wp2
    go_ret
    exact ⟨rfl, (Chg.refl w nob).alloc _⟩
  · have hd : Hid (decide (0 ≤ f ∧ f ≤ 255) = false) := Lib.hid (by simp; omega)
    have h2 : 0 ≤ f := by omega
    rw [hd.out]
    go_enter Try.func7, Try.ntmps7
    go_wp2
    go_ret
    exact ⟨rfl, (Chg.refl w nob).alloc _⟩
  · have hd : Hid (decide (0 ≤ f ∧ f ≤ 255) = true) := Lib.hid (by simp; omega)
    rw [hd.out]
    go_enter Try.func7, Try.ntmps7
    go_wp2_with fail
    go_at_call 13
    refine (mayc_any _ g).mono ?_
    rw [E1.out]
    rintro e w' ⟨rfl, rfl⟩
    cases k1
    · go_wp2
      go_ret
      exact ⟨rfl, (Chg.refl w nob).alloc _⟩
    · go_wp2_with fail
      go_at_call 13
      refine (mayc_any _ b).mono ?_
      rw [E2.out]
      rintro e w' ⟨rfl, rfl⟩
      cases k2
      all_goals
        go_wp2
        go_ret
        exact ⟨rfl, (Chg.refl w nob).alloc _⟩

/-- Numbers of the call's own. -/
def Nx (w wr : World) (v : Value) (L : List Int) : Prop := Own wr 3 1 v L.length (intI L) ∧ Chg w wr nob ∧ ∀ k, blkOf v k → w.heap.size ≤ k
theorem Nx.app {w wr w1 : World} {v v1 : Value} {L ys : List Int} {us : List Value} {n : Nat} (h : Nx w wr v L) (ho : Own w1 3 1 v1 n (intI L ++ us)) (hc : Chg wr w1 (blkOf v)) (hf : ∀ k, blkOf v1 k → blkOf v k ∨ wr.heap.size ≤ k) (hu : us = intI ys) (hn : n = L.length + ys.length) : Nx w w1 v1 (L ++ ys) := by
  subst hu hn
  refine ⟨by simpa [intI] using ho, h.2.1.trans hc (fun i hi hb => by have := h.2.2 i hb; omega), fun k hk => ?_⟩
  rcases hf k hk with h1 | h1
  · exact h.2.2 k h1
  · exact Nat.le_trans h.2.1.size h1
theorem Nx.kept {w wr w1 : World} {v : Value} {L : List Int} (h : Nx w wr v L) (hc : Chg wr w1 nob) : Nx w w1 v L := ⟨h.1.kept hc (fun _ _ => id), h.2.1.trans hc (fun _ _ h => h), h.2.2⟩

def namedF (first c : Int) : List Int := if 16777216 ≤ c then [first, 2, c / 65536 % 256, c / 256 % 256, c % 256] else if 0 < c then [first, 5, c - 1] else []
theorem Own.lit (w : World) (e : TypeId) (cs : Array Value) (h : cs.size ≤ 1000) : Own (w.alloc (.cells cs e)) e 1 (.slice (some ⟨w.heap.size, 0, none⟩) cs.size cs.size) cs.size cs.toList :=
  ⟨by simp, .inr ⟨w.heap.size, cs.size, cs, rfl, Nat.zero_le _, heap_alloc_new w _, Nat.le_refl _, by unfold maxLen; omega, by simp, by rw [Nat.mul_one]; exact List.take_of_length_le (by simp)⟩⟩

theorem Own.lit' (w w1 : World) (hw : w1.heap.size = w.heap.size) (e : TypeId) (cs : Array Value) (h : cs.size ≤ 1000) : Own (w1.alloc (.cells cs e)) e 1 (.slice (some ⟨w.heap.size, 0, none⟩) cs.size cs.size) cs.size cs.toList := by rw [← hw]; exact Own.lit w1 e cs h
theorem wraps_i64 (n : Int) (h₀ : 0 ≤ n) (h₁ : n < 2 ^ 63) : IntKind.i64.wrap n = n := by
  simp only [IntKind.wrap, IntKind.bits, IntKind.signed]; simp; omega
theorem i64_and255 (x : Int) (h₀ : 0 ≤ x) (h₁ : x < 9223372036854775808) : bits .and .i64 x 255 = x % 256 := bits_mask .i64 63 (by decide) wraps_i64 8 (by decide) x h₀ (by omega)
set_option maxHeartbeats 4000000 in
theorem named_any (w : World) (a c : Int) (hc : 0 ≤ c ∧ c < 33554432) : Calls Try.prog 15 #[.int .i64 a, .int .i64 c] w fun e w' => ∃ v, e = .returned v ∧ Own w' 3 1 v (namedF a c).length (intI (namedF a c)) ∧ Chg w w' nob ∧ ∀ k, blkOf v k → w.heap.size ≤ k := by
  rcases (show c = 0 ∨ (0 < c ∧ c < 16777216) ∨ 16777216 ≤ c by omega) with rfl | ⟨h, h'⟩ | h
  · have e : namedF a 0 = [] := rfl
    rw [e]
    go_enter Try.func15, Try.ntmps15
    go_wp2
    go_ret
    exact ⟨_, rfl, World.ownsRow_nil _ _ _ _, Chg.refl _ _, fun k hk => by cases hk⟩
  · have e : namedF a c = [a, 5, c - 1] := by unfold namedF; rw [if_neg (by omega), if_pos h]
    rw [e]
    clear e
    go_enter Try.func15, Try.ntmps15
    go_wp2
    go_ret
    exact ⟨_, rfl, Own.lit w 3 #[.int .i64 a, .int .i64 5, .int .i64 (c - 1)] (by simp), (Chg.refl _ _).alloc _, fun k hk => by cases hk; exact Nat.le_refl _⟩
  · have e : namedF a c = [a, 2, c / 65536 % 256, c / 256 % 256, c % 256] := by unfold namedF; rw [if_pos h]
    rw [e]
    clear e
    go_enter Try.func15, Try.ntmps15
    go_wp2
    go_ret
    rw [i64_and255 _ (by omega) (by omega), i64_and255 _ (by omega) (by omega), i64_and255 _ (by omega) (by omega)]
    exact ⟨_, rfl, Own.lit w 3 #[.int .i64 a, .int .i64 2, .int .i64 (c / 65536 % 256), .int .i64 (c / 256 % 256), .int .i64 (c % 256)] (by simp), (Chg.refl _ _).alloc _, fun k hk => by cases hk; exact Nat.le_refl _⟩

/-- The flags of a look as params. -/
theorem size_al (w : World) (o : Obj) : (w.alloc o).heap.size = w.heap.size + 1 := Array.size_push _
def flagsL (f : Int) : List Int := ([1, 2, 3, 4, 5, 7, 8, 9] : List Int).filter fun n => decide (0 < bits .and .i64 f (flagF n))
def paramsF (f g b : Int) : List Int := if mayF f g b then 0 :: flagsL f ++ namedF 38 g ++ namedF 48 b else [0]
theorem namedF_len (a c : Int) : (namedF a c).length ≤ 5 := by unfold namedF; (repeat' split) <;> simp
theorem flagsL_len (f : Int) : (flagsL f).length ≤ 8 := List.length_filter_le _ _
theorem oneV (ys : List Int) : ∀ u ∈ intI ys, u.oneCell' = true := fun u hu => by obtain ⟨x, _, rfl⟩ := List.mem_map.1 hu; rfl
theorem Own.news {w : World} {e : TypeId} {ao : Option Addr} {n cap : Nat} {ys : List Value} (h : Own w e 1 (.slice ao n cap) n ys) : ∀ a, ao = some a → ∀ j u, ys[j]? = some u → w.cell? (a.add j) = some u := fun a ha j u hu => by
  obtain ⟨b', o', h1, h2⟩ := h.rd.cell hu
  rw [ha] at h1
  cases h1
  rw [Addr.add_lit]; exact h2

set_option maxRecDepth 100000 in
set_option maxHeartbeats 8000000 in
theorem params_any (w : World) (f g b : Int) : Calls Try.prog 8 #[lookV f g b] w fun e w' => ∃ v, e = .returned v ∧ Nx w w' v (paramsF f g b) := by
  obtain ⟨k, hk⟩ : ∃ k, mayF f g b = k := ⟨_, rfl⟩
  have HK := Lib.hid hk
  obtain ⟨L, hL⟩ : ∃ L, paramsF f g b = L := ⟨_, rfl⟩
  rw [hL]
  have HL := Lib.hid hL
  clear hk hL
  have hpk : Hid (mayF f g b = true → ((0 ≤ g ∧ g < 33554432) ∧ (0 ≤ b ∧ b < 33554432))) := Lib.hid (fun h => by simp [mayF, mayC] at h; omega)
  have hA0 : Hid (Blk ((w.alloc (.cells #[.int .i64 f, .int .i64 g, .int .i64 b] 23)).alloc (.cells #[.int .i64 0] 3)) w.heap.size 23 #[.int .i64 f, .int .i64 g, .int .i64 b]) := Lib.hid ((Blk.new w _ _).alloc _)
  have hN0 : Hid (Nx w ((w.alloc (.cells #[.int .i64 f, .int .i64 g, .int .i64 b] 23)).alloc (.cells #[.int .i64 0] 3)) (.slice (some ⟨w.heap.size + 1, 0, none⟩) 1 1) [0]) := Lib.hid (by
    have h := Own.lit (w.alloc (.cells #[.int .i64 f, .int .i64 g, .int .i64 b] 23)) 3 #[.int .i64 0] (by simp)
    rw [size_al] at h
    exact ⟨h, ((Chg.refl w nob).alloc _).alloc _, fun k hk => by cases hk; simp⟩)
  go_enter Try.func8, Try.ntmps8
  go_wp2_with fail
  go_at_call 7
  refine (may_any _ f g b).mono ?_
  rw [HK.out]
  rintro e wB ⟨rfl, hB⟩
  have HN := Lib.hid (hN0.out.kept hB)
  have HP := Lib.hid (hA0.out.kept hB id)
  clear hB hA0 hN0
  generalize w.heap.size + 1 = q0 at *
  obtain ⟨p, hp⟩ : ∃ p, w.heap.size = p := ⟨_, rfl⟩
  rw [hp] at HP ⊢
  have HPW := Lib.hid hp
  clear hp
  cases k
  · have hl : Hid (L = [0]) := Lib.hid (by rw [← HL.out]; unfold paramsF; rw [HK.out]; rfl)
    rw [← hl.out] at HN
    go_wp2
    go_ret
    exact ⟨_, rfl, HN.out⟩
  · have hl : Hid (L = ([0] ++ flagsL f) ++ namedF 38 g ++ namedF 48 b) := Lib.hid (by rw [← HL.out]; unfold paramsF; rw [HK.out]; rfl)
    have hgb := hpk.out HK.out
    go_wp2_with fail
    have HC8 : Hid (Blk (wB.alloc (.cells #[.int .i64 1, .int .i64 2, .int .i64 3, .int .i64 4, .int .i64 5, .int .i64 7, .int .i64 8, .int .i64 9] 3)) wB.heap.size 3 #[.int .i64 1, .int .i64 2, .int .i64 3, .int .i64 4, .int .i64 5, .int .i64 7, .int .i64 8, .int .i64 9]) := Lib.hid (Blk.new wB _ _)
    have HN1 := Lib.hid (HN.out.kept ((Chg.refl wB nob).alloc (.cells #[.int .i64 1, .int .i64 2, .int .i64 3, .int .i64 4, .int .i64 5, .int .i64 7, .int .i64 8, .int .i64 9] 3)))
    have HP1 := Lib.hid (HP.out.kept ((Chg.refl wB nob).alloc (.cells #[.int .i64 1, .int .i64 2, .int .i64 3, .int .i64 4, .int .i64 5, .int .i64 7, .int .i64 8, .int .i64 9] 3)) id)
    have hqs : Hid (¬ blkOf (.slice (some ⟨q0, 0, none⟩) 1 1) wB.heap.size) := Lib.hid (fun h => by have := HN.out.1.lt h; omega)
    have HQL : Hid (w.heap.size ≤ wB.heap.size) := Lib.hid HN.out.2.1.size
    clear HN HP
    generalize wB.alloc (.cells #[.int .i64 1, .int .i64 2, .int .i64 3, .int .i64 4, .int .i64 5, .int .i64 7, .int .i64 8, .int .i64 9] 3) = wC at *
    generalize wB.heap.size = q at *
    go_loopw [3, 13] (fun v i wr => ∃ j : Nat, j ≤ 8 ∧ i = .int .i64 j ∧ Hid (Nx w wr v ([0] ++ (([1, 2, 3, 4, 5, 7, 8, 9] : List Int).take j).filter fun n => decide (0 < bits .and .i64 f (flagF n)))) ∧ Hid (Blk wr p 23 #[.int .i64 f, .int .i64 g, .int .i64 b]) ∧ Hid (Blk wr q 3 #[.int .i64 1, .int .i64 2, .int .i64 3, .int .i64 4, .int .i64 5, .int .i64 7, .int .i64 8, .int .i64 9] ∧ ¬ blkOf v q)) (fun _ i _ => 8 - (intOf i).toNat)
    case atStart => exact ⟨0, by omega, rfl, by simpa using HN1, HP1, HC8.out, hqs.out⟩
    case round =>
      obtain ⟨j, hj, rfl, HI, HPr, HQ⟩ := hrel
      clear HN1 HP1 HC8 hqs
      have hc0 : wr.cell? ⟨p, 0, none⟩ = some (.int .i64 f) := by rw [HPr.out.cell]; rfl
      have hc1 : wr.cell? ⟨p, 1, none⟩ = some (.int .i64 g) := by rw [HPr.out.cell]; rfl
      have hc2 : wr.cell? ⟨p, 2, none⟩ = some (.int .i64 b) := by rw [HPr.out.cell]; rfl
      by_cases hjl : j < 8
      · have hji : (j : Int) < 8 := by omega
        have hcq : wr.cell? ⟨q, j, none⟩ = some (.int .i64 (([1, 2, 3, 4, 5, 7, 8, 9] : List Int).getD j 0)) := by
          rw [HQ.out.1.cell]
          rcases (show j = 0 ∨ j = 1 ∨ j = 2 ∨ j = 3 ∨ j = 4 ∨ j = 5 ∨ j = 6 ∨ j = 7 by omega) with rfl | rfl | rfl | rfl | rfl | rfl | rfl | rfl <;> rfl
        have hxb : 1 ≤ ([1, 2, 3, 4, 5, 7, 8, 9] : List Int).getD j 0 ∧ ([1, 2, 3, 4, 5, 7, 8, 9] : List Int).getD j 0 ≤ 9 := by
          rcases (show j = 0 ∨ j = 1 ∨ j = 2 ∨ j = 3 ∨ j = 4 ∨ j = 5 ∨ j = 6 ∨ j = 7 by omega) with rfl | rfl | rfl | rfl | rfl | rfl | rfl | rfl <;> decide
        have hsn := take_snoc (l := ([1, 2, 3, 4, 5, 7, 8, 9] : List Int)) (k := j) (by simpa using hjl) 0
        generalize ([1, 2, 3, 4, 5, 7, 8, 9] : List Int).getD j 0 = x at *
        have HSN := Lib.hid hsn
        clear hsn
        have hlf : ([0] ++ (([1, 2, 3, 4, 5, 7, 8, 9] : List Int).take j).filter fun n => decide (0 < bits .and .i64 f (flagF n))).length ≤ 9 := by
          have := List.length_filter_le (fun n => decide (0 < bits .and .i64 f (flagF n))) (([1, 2, 3, 4, 5, 7, 8, 9] : List Int).take j)
          rw [List.length_take] at this
          simp only [List.length_append, List.length_cons, List.length_nil] at *
          omega
        obtain ⟨y, hy⟩ : ∃ y, bits .and .i64 f (flagF x) = y := ⟨_, rfl⟩
        have HY := Lib.hid hy
        clear hy
        go_wp2_with fail
        refine wp_one [1] [3] [(3, [1])] [0, 1, 2, 3, 4, 5] rfl (by kernel_rfl) (fun _ _ _ _ _ h => h) ?_; simp only [List.map_cons, List.map_nil, List.getElem?_toArray, List.getElem?_cons_zero, List.getElem?_cons_succ]
        (repeat (first | (apply can0; (· rfl); (· rfl); (· (intro w'; first | (go_simp; with_reducible rfl) | (go_simp; done))); simp only [Act.put, List.setIfInBounds_toArray, List.set_cons_zero, List.set_cons_succ]) | (apply can1; (· rfl); (· rfl); (· (first | (go_simp; with_reducible rfl) | (go_simp; done))); simp only [Act.put, List.setIfInBounds_toArray, List.set_cons_zero, List.set_cons_succ]) | (apply canN; (· rfl); (· rfl); simp only [Act.put, List.setIfInBounds_toArray, List.set_cons_zero, List.set_cons_succ]) | (apply canN1; (· rfl); (· rfl); simp only [Act.put, List.setIfInBounds_toArray, List.set_cons_zero, List.set_cons_succ]) | (apply can0; (· rfl); (· (go_simp; done)); (· (intro w'; first | (go_simp; with_reducible rfl) | (go_simp; done))); simp only [Act.put, List.setIfInBounds_toArray, List.set_cons_zero, List.set_cons_succ]) | (apply can1; (· rfl); (· (go_simp; done)); (· (first | (go_simp; with_reducible rfl) | (go_simp; done))); simp only [Act.put, List.setIfInBounds_toArray, List.set_cons_zero, List.set_cons_succ]) | (apply canN; (· rfl); (· (go_simp; done)); simp only [Act.put, List.setIfInBounds_toArray, List.set_cons_zero, List.set_cons_succ]) | (apply canN1; (· rfl); (· (go_simp; done)); simp only [Act.put, List.setIfInBounds_toArray, List.set_cons_zero, List.set_cons_succ])))
        refine canW rfl [1] rfl (fun K hK => ?_)
        go_simp
        go_at_call 14
        refine (flag_any _ x (by omega)).mono ?_
        rintro e w' ⟨rfl, rfl⟩
        (refine hK _ _ (fun u hu => by simp only [List.mem_cons, List.not_mem_nil, or_false] at hu; (first | (subst hu; exact reRun_mk rfl (by first | (go_simp; with_reducible rfl) | (go_simp; done)) (holds_at rfl)) | (rcases hu with rfl | rfl <;> exact reRun_mk rfl (by first | (go_simp; with_reducible rfl) | (go_simp; done)) (holds_at rfl)) | (rcases hu with rfl | rfl | rfl <;> exact reRun_mk rfl (by first | (go_simp; with_reducible rfl) | (go_simp; done)) (holds_at rfl)))) ?_; clear hK K; try simp only [Act.put, List.setIfInBounds_toArray, List.set_cons_zero, List.set_cons_succ])
        (repeat (first | (apply can0; (· rfl); (· rfl); (· (intro w'; first | (go_simp; with_reducible rfl) | (go_simp; done))); simp only [Act.put, List.setIfInBounds_toArray, List.set_cons_zero, List.set_cons_succ]) | (apply can1; (· rfl); (· rfl); (· (first | (go_simp; with_reducible rfl) | (go_simp; done))); simp only [Act.put, List.setIfInBounds_toArray, List.set_cons_zero, List.set_cons_succ]) | (apply canN; (· rfl); (· rfl); simp only [Act.put, List.setIfInBounds_toArray, List.set_cons_zero, List.set_cons_succ]) | (apply canN1; (· rfl); (· rfl); simp only [Act.put, List.setIfInBounds_toArray, List.set_cons_zero, List.set_cons_succ]) | (apply can0; (· rfl); (· (go_simp; done)); (· (intro w'; first | (go_simp; with_reducible rfl) | (go_simp; done))); simp only [Act.put, List.setIfInBounds_toArray, List.set_cons_zero, List.set_cons_succ]) | (apply can1; (· rfl); (· (go_simp; done)); (· (first | (go_simp; with_reducible rfl) | (go_simp; done))); simp only [Act.put, List.setIfInBounds_toArray, List.set_cons_zero, List.set_cons_succ]) | (apply canN; (· rfl); (· (go_simp; done)); simp only [Act.put, List.setIfInBounds_toArray, List.set_cons_zero, List.set_cons_succ]) | (apply canN1; (· rfl); (· (go_simp; done)); simp only [Act.put, List.setIfInBounds_toArray, List.set_cons_zero, List.set_cons_succ])))
        rw [HY.out]
        refine canE ?_
        by_cases hy0 : 0 < y
        · have HI2 := Lib.hid (show Nx w wr.drew _ _ from HI.out.kept (Chg.refl wr nob).drew)
          have HPd : Hid (Blk wr.drew p 23 #[.int .i64 f, .int .i64 g, .int .i64 b]) := HPr
          have HQd : Hid (Blk wr.drew q 3 #[.int .i64 1, .int .i64 2, .int .i64 3, .int .i64 4, .int .i64 5, .int .i64 7, .int .i64 8, .int .i64 9] ∧ _) := HQ
          clear HI HPr HQ hc0 hc1 hc2 hcq
          generalize wr.drew = wd at *
          go_wp2_with (at_builtin; refine wpList_push rfl (.tmp 23) (.tmp 25) 24 rfl 3 (.int .i64 0) 1 8 i_int u_ints rfl (by decide) _ _ _ rfl HI2.out.1 1 1 rfl rfl rfl (by unfold maxLen; omega) (by omega) ?_)
          intro v5 w5 ho5 hch5 hfo5
          have HN5 := Lib.hid (HI2.out.app (ys := [x]) ho5 hch5 hfo5 rfl rfl)
          have HP5 := Lib.hid (HPd.out.kept hch5 (HI2.out.1.ne HPd.out (by decide)))
          have HQ5 := Lib.hid (show Blk w5 q _ _ ∧ ¬ blkOf v5 q from ⟨HQd.out.1.kept hch5 HQd.out.2, fun h => by
            rcases hfo5 q h with h | h
            · exact HQd.out.2 h
            · have := HQd.out.1.lt; omega⟩)
          clear ho5 hch5 hfo5
          go_wp2
          go_roundw
          case rel =>
            refine ⟨j + 1, by omega, by go_num, ?_, HP5, HQ5⟩
            unfold Hid
            rw [HSN.out, List.filter_append, ← List.append_assoc]
            have e : List.filter (fun n => decide (0 < bits .and .i64 f (flagF n))) [x] = [x] := by simp [HY.out, hy0]
            rw [e]; exact HN5.out
          case measure => simp [intOf]; omega
        · go_wp2
          go_roundw
          case rel =>
            refine ⟨j + 1, by omega, by go_num, ?_, HPr, HQ⟩
            unfold Hid
            rw [HSN.out, List.filter_append, ← List.append_assoc]
            have e : List.filter (fun n => decide (0 < bits .and .i64 f (flagF n))) [x] = [] := by simp [HY.out, hy0]
            rw [e, List.append_nil]; exact HI.out.kept (Chg.refl wr nob).drew
          case measure => simp [intOf]; omega
      · obtain rfl : j = 8 := by omega
        have hfl : ([0] ++ (([1, 2, 3, 4, 5, 7, 8, 9] : List Int).take 8).filter fun n => decide (0 < bits .and .i64 f (flagF n))) = [0] ++ flagsL f := rfl
        rw [hfl] at HI
        clear hfl
        have hll : ([0] ++ flagsL f).length ≤ 9 := by have := flagsL_len f; simp; omega
        generalize [0] ++ flagsL f = L1 at *
        go_wp2_with fail
        go_at_call 15
        refine (named_any _ 38 g hgb.1).mono ?_
        have hl1 := namedF_len 38 g
        generalize hY1 : namedF 38 g = Y1 at *
        clear hY1
        rintro e wD1 ⟨vn, rfl, hon, hcn, -⟩
        have HI1 := Lib.hid (HI.out.kept hcn)
        have HPa1 := Lib.hid (HPr.out.kept hcn id)
        obtain ⟨an, cn, rfl, _, _, hnn, _⟩ := hon.form
        have hnews := Lib.hid hon.news
        have hone := Lib.hid (oneV Y1)
        have hnil := Lib.hid hnn
        clear hon hcn hnn
        go_wp2_with (at_builtin; refine wpList_app rfl (.tmp 28) (.tmp 31) 24 rfl 3 (.int .i64 0) 1 8 i_int u_ints rfl (by decide) _ _ _ rfl HI1.out.1 an Y1.length cn (intI Y1) rfl hnil.out (by simp [intI]) hnews.out hone.out (by unfold maxLen; omega) (by omega) ?_)
        intro v1 w1 ho hch hfo
        have HJ1 := Lib.hid (HI1.out.app (ys := Y1) ho hch hfo rfl rfl)
        have HPb1 : Hid (Blk w1 p 23 #[.int .i64 f, .int .i64 g, .int .i64 b]) := Lib.hid (HPa1.out.kept hch (HI1.out.1.ne HPa1.out (by decide)))
        clear ho hch hfo HI1 HPa1
        have hcb1 : w1.cell? ⟨p, 2, none⟩ = some (.int .i64 b) := by rw [HPb1.out.cell]; rfl
        have hlz : (L1 ++ Y1).length ≤ 14 := by rw [List.length_append]; omega
        generalize L1 ++ Y1 = L2 at *
        go_wp2_with fail
        go_at_call 15
        refine (named_any _ 48 b hgb.2).mono ?_
        have hl2 := namedF_len 48 b
        generalize hY2 : namedF 48 b = Y2 at *
        clear hY2
        rintro e wD2 ⟨vn, rfl, hon, hcn, -⟩
        have HI2 := Lib.hid (HJ1.out.kept hcn)
        have HPa2 := Lib.hid (HPb1.out.kept hcn id)
        obtain ⟨an, cn, rfl, _, _, hnn, _⟩ := hon.form
        have hnews := Lib.hid hon.news
        have hone := Lib.hid (oneV Y2)
        have hnil := Lib.hid hnn
        clear hon hcn hnn
        go_wp2_with (at_builtin; refine wpList_app rfl (.tmp 33) (.tmp 36) 24 rfl 3 (.int .i64 0) 1 8 i_int u_ints rfl (by decide) _ _ _ rfl HI2.out.1 an Y2.length cn (intI Y2) rfl hnil.out (by simp [intI]) hnews.out hone.out (by unfold maxLen; omega) (by omega) ?_)
        intro v2 w2 ho hch hfo
        have HJ2 := Lib.hid (HI2.out.app (ys := Y2) ho hch hfo rfl rfl)
        have HPb2 : Hid (Blk w2 p 23 #[.int .i64 f, .int .i64 g, .int .i64 b]) := Lib.hid (HPa2.out.kept hch (HI2.out.1.ne HPa2.out (by decide)))
        clear ho hch hfo HI2 HPa2
        rw [← hl.out] at HJ2
        go_wp2
        go_ret
        exact ⟨_, rfl, HJ2.out⟩
end Go.Proofs.Ytkcpgafafbjiaaa
