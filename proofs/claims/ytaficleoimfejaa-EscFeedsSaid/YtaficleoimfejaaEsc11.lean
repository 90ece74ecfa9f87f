/-
  Chapter 8: first.
-/
import Derived.Test.YtaficleoimfejaaEsc10
namespace Go.Proofs.Ytaficleoimfejaa
open Go.RowKit
set_option linter.unusedVariables false
set_option linter.unusedSimpArgs false

set_option maxHeartbeats 4000000 in
theorem ints_eq (w : World) (va vb : Value) (xs ys : List Int) (ha : Rd w 1 va xs.length (intI xs)) (hb : Rd w 1 vb ys.length (intI ys)) (hl : xs.length ≤ 140737488351232) (hl2 : ys.length ≤ 140737488351232) :
    Calls Try.prog 15 #[va, vb] w fun e w' => e = .returned (.bool (decide (xs = ys))) ∧ Chg w w' nob := by
  obtain ⟨a1, c1, rfl, hn1, _, hx1⟩ := ha
  obtain ⟨a2, c2, rfl, hn2, _, hx2⟩ := hb
  by_cases hlen : xs.length = ys.length
  · have hcA : ∀ wr, Chg w wr nob → ∀ j u, (intI xs)[j]? = some u → ∃ b o, a1 = some ⟨b, o, none⟩ ∧ wr.cell? ⟨b, o + j, none⟩ = some u := fun wr hch j u hu => by
      obtain ⟨b, o, h1, h2⟩ := hx1 j u hu
      exact ⟨b, o, h1, hch.cell h2 id⟩
    have hcB : ∀ wr, Chg w wr nob → ∀ j u, (intI ys)[j]? = some u → ∃ b o, a2 = some ⟨b, o, none⟩ ∧ wr.cell? ⟨b, o + j, none⟩ = some u := fun wr hch j u hu => by
      obtain ⟨b, o, h1, h2⟩ := hx2 j u hu
      exact ⟨b, o, h1, hch.cell h2 id⟩
    have HA := Lib.hid hcA
    have HB := Lib.hid hcB
    clear hcA hcB hx1 hx2
    have HL := Lib.hid hlen
    have hb1 : (((xs.length : Nat) : Int) != (ys.length : Nat)) = false := by rw [hlen]; simp
    rw [hlen] at hl hn1
    clear hlen
    go_enter Try.func15, Try.ntmps15
    go_wp2
    go_loopw [5] (fun i wr => ∃ k : Nat, k ≤ xs.length ∧ i = .int .i64 k ∧ Hid (xs.take k = ys.take k) ∧ Chg w wr nob) (fun i _ => xs.length - (intOf i).toNat)
    case atStart => exact ⟨0, Nat.zero_le _, rfl, rfl, Chg.refl _ _⟩
    case round =>
      obtain ⟨k, hk, rfl, HT, hch⟩ := hrel
      by_cases hkl : k < xs.length
      · have hky : k < ys.length := by rw [← HL.out]; exact hkl
        obtain ⟨b1, o1, rfl, hc1⟩ := HA.out wr hch k (.int .i64 (xs.getD k 0)) (by simp [intI, List.getD, hkl])
        obtain ⟨b2, o2, rfl, hc2⟩ := HB.out wr hch k (.int .i64 (ys.getD k 0)) (by simp [intI, List.getD, hky])
        have hki : (k : Int) < (xs.length : Int) := by omega
        have hkj : (k : Int) < (ys.length : Int) := by omega
        obtain ⟨x, hx⟩ : ∃ x, xs.getD k 0 = x := ⟨_, rfl⟩
        obtain ⟨y, hy⟩ : ∃ y, ys.getD k 0 = y := ⟨_, rfl⟩
        rw [hx] at hc1
        rw [hy] at hc2
        have HX := Lib.hid hx
        have HY := Lib.hid hy
        clear hx hy
        by_cases hxy : x = y
        · subst hxy
          go_wp2
          refine wp_one [3, 7] [] [] [0, 1, 2, 3, 4, 5, 6, 7, 8] rfl (by kernel_rfl) (fun _ _ _ _ _ h => h) ?_; simp only [List.map_cons, List.map_nil, List.getElem?_toArray, List.getElem?_cons_zero, List.getElem?_cons_succ]
          (repeat (first | (apply can0; (· rfl); (· rfl); (· (intro w'; first | (go_simp; with_reducible rfl) | (go_simp; done))); simp only [Act.put, List.setIfInBounds_toArray, List.set_cons_zero, List.set_cons_succ]) | (apply can1; (· rfl); (· rfl); (· (first | (go_simp; with_reducible rfl) | (go_simp; done))); simp only [Act.put, List.setIfInBounds_toArray, List.set_cons_zero, List.set_cons_succ]) | (apply canN; (· rfl); (· rfl); simp only [Act.put, List.setIfInBounds_toArray, List.set_cons_zero, List.set_cons_succ]) | (apply canN1; (· rfl); (· rfl); simp only [Act.put, List.setIfInBounds_toArray, List.set_cons_zero, List.set_cons_succ]) | (apply can0; (· rfl); (· (go_simp; done)); (· (intro w'; first | (go_simp; with_reducible rfl) | (go_simp; done))); simp only [Act.put, List.setIfInBounds_toArray, List.set_cons_zero, List.set_cons_succ]) | (apply can1; (· rfl); (· (go_simp; done)); (· (first | (go_simp; with_reducible rfl) | (go_simp; done))); simp only [Act.put, List.setIfInBounds_toArray, List.set_cons_zero, List.set_cons_succ]) | (apply canN; (· rfl); (· (go_simp; done)); simp only [Act.put, List.setIfInBounds_toArray, List.set_cons_zero, List.set_cons_succ]) | (apply canN1; (· rfl); (· (go_simp; done)); simp only [Act.put, List.setIfInBounds_toArray, List.set_cons_zero, List.set_cons_succ])))
          refine canE ?_
          go_wp2
          go_roundw
          case rel =>
            refine ⟨k + 1, by omega, by go_num, ?_, hch.drew⟩
            unfold Hid
            rw [List.take_succ_eq_append_getElem hkl, List.take_succ_eq_append_getElem hky, HT.out]
            have h1 := HX.out
            have h2 := HY.out
            simp [List.getD, hkl, hky] at h1 h2
            rw [h1, h2]
          case measure => simp [intOf]; omega
        · have hb2 : (x != y) = true := by simpa using hxy
          go_wp2
          refine wp_one [3, 7] [] [] [0, 1, 2, 3, 4, 5, 6, 7, 8] rfl (by kernel_rfl) (fun _ _ _ _ _ h => h) ?_; simp only [List.map_cons, List.map_nil, List.getElem?_toArray, List.getElem?_cons_zero, List.getElem?_cons_succ]
          (repeat (first | (apply can0; (· rfl); (· rfl); (· (intro w'; first | (go_simp; with_reducible rfl) | (go_simp; done))); simp only [Act.put, List.setIfInBounds_toArray, List.set_cons_zero, List.set_cons_succ]) | (apply can1; (· rfl); (· rfl); (· (first | (go_simp; with_reducible rfl) | (go_simp; done))); simp only [Act.put, List.setIfInBounds_toArray, List.set_cons_zero, List.set_cons_succ]) | (apply canN; (· rfl); (· rfl); simp only [Act.put, List.setIfInBounds_toArray, List.set_cons_zero, List.set_cons_succ]) | (apply canN1; (· rfl); (· rfl); simp only [Act.put, List.setIfInBounds_toArray, List.set_cons_zero, List.set_cons_succ]) | (apply can0; (· rfl); (· (go_simp; done)); (· (intro w'; first | (go_simp; with_reducible rfl) | (go_simp; done))); simp only [Act.put, List.setIfInBounds_toArray, List.set_cons_zero, List.set_cons_succ]) | (apply can1; (· rfl); (· (go_simp; done)); (· (first | (go_simp; with_reducible rfl) | (go_simp; done))); simp only [Act.put, List.setIfInBounds_toArray, List.set_cons_zero, List.set_cons_succ]) | (apply canN; (· rfl); (· (go_simp; done)); simp only [Act.put, List.setIfInBounds_toArray, List.set_cons_zero, List.set_cons_succ]) | (apply canN1; (· rfl); (· (go_simp; done)); simp only [Act.put, List.setIfInBounds_toArray, List.set_cons_zero, List.set_cons_succ])))
          refine canE ?_
          go_wp2
          go_ret
          refine ⟨?_, hch.drew⟩
          have : xs ≠ ys := fun h => hxy (by rw [← HX.out, ← HY.out, h])
          simp [this]
      · obtain rfl : k = xs.length := by omega
        go_wp2
        go_ret
        refine ⟨?_, hch⟩
        have h := HT.out
        rw [List.take_length, HL.out, List.take_length] at h
        simp [h]
  · have hb1 : ((xs.length : Int) = (ys.length : Int)) = False := by simp; omega
    clear hx1 hx2
    go_enter Try.func15, Try.ntmps15
    go_wp2
    go_ret
    have hd : decide (xs = ys) = false := by simp only [decide_eq_false_iff_not]; intro h; exact hlen (by rw [h])
    exact ⟨by rw [hd]; rfl, Chg.refl _ _⟩


theorem Own.lit (w : World) (e : TypeId) (cs : Array Value) (h : cs.size ≤ 1000) : Own (w.alloc (.cells cs e)) e 1 (.slice (some ⟨w.heap.size, 0, none⟩) cs.size cs.size) cs.size cs.toList :=
  ⟨by simp, .inr ⟨w.heap.size, cs.size, cs, rfl, Nat.zero_le _, heap_alloc_new w _, Nat.le_refl _, by unfold maxLen; omega, by simp, by rw [Nat.mul_one]; exact List.take_of_length_le (by simp)⟩⟩
theorem evc_len (x : Ev × Value) : (evc x).length = 7 := rfl
theorem flat_get : ∀ (q : List (Ev × Value)) (j i : Nat), i < 7 → (q.flatMap evc)[j * 7 + i]? = (q[j]?).bind fun x => (evc x)[i]?
  | [], j, i, _ => by simp
  | x :: q, 0, i, h => by
    rw [List.flatMap_cons, List.getElem?_append_left (by rw [evc_len]; omega)]
    simp
  | x :: q, j + 1, i, h => by
    rw [List.flatMap_cons, List.getElem?_append_right (by rw [evc_len]; omega), evc_len, show (j + 1) * 7 + i - 7 = j * 7 + i by omega, flat_get q j i h]
    simp
/-- What may be read of an event. -/
theorem EVS.at {w : World} {v : Value} {l : List Ev} {D : Nat → Prop} (h : EVS w v l D) {j : Nat} {ev : Ev} (hj : l[j]? = some ev) : ∃ g cap pv, v = .slice (some ⟨g, 0, none⟩) l.length cap ∧ l.length ≤ cap ∧ cap ≤ 9223372036854775807 ∧ Rd w 1 pv ev.ps.length (intI ev.ps) ∧ (∀ k, blkOf pv k → D k) ∧
    ∀ i, i < 7 → w.cell? ⟨g, j * 7 + i, none⟩ = (evc (ev, pv))[i]? := by
  obtain ⟨q, h1, h2, h3, h4⟩ := h
  have hq : q.length = l.length := by rw [← h1, List.length_map]
  have hjl : j < l.length := (List.getElem?_eq_some_iff.1 hj).1
  obtain ⟨ao, cap, rfl, hcap, hmax, hnone, hsome⟩ := h2.form
  cases ao with
  | none => have := (hnone rfl).1; omega
  | some a =>
    obtain ⟨g, rfl⟩ := hsome a rfl
    have hx : ∃ x, q[j]? = some x ∧ x.1 = ev := by
      have h := congrArg (fun (z : List Ev) => z[j]?) h1
      simp only [List.getElem?_map] at h
      rw [hj] at h
      cases hqj : q[j]? with
      | none => rw [hqj] at h; cases h
      | some x => rw [hqj] at h; exact ⟨x, rfl, by simpa using h⟩
    obtain ⟨x, hx, rfl⟩ := hx
    have hmem : x ∈ q := List.mem_of_getElem? hx
    refine ⟨g, cap, x.2, by rw [hq], by omega, hmax, (h3 x hmem).1, (h3 x hmem).2, fun i hi => ?_⟩
    rw [h2.cellAt (j * 7 + i) (by omega), flat_get q j i hi, hx]
    rfl
theorem EVS.len {w : World} {v : Value} {l : List Ev} {D : Nat → Prop} (h : EVS w v l D) : ∃ ao cap, v = .slice ao l.length cap ∧ l.length ≤ cap ∧ cap ≤ 9223372036854775807 := by
  obtain ⟨q, h1, h2, h3, h4⟩ := h
  obtain ⟨ao, cap, rfl, hcap, hmax, _⟩ := h2.form
  have hq : q.length = l.length := by rw [← h1, List.length_map]
  exact ⟨ao, cap, by rw [hq], by omega, hmax⟩

/-- A parser of the law's own, with nothing told. -/
structure PH (w0 w : World) (p : Nat) (s : PS) (n : Nat) (F : Nat → Prop) : Prop where
  out : s.out = []
  ok : PSok s n
  pr : PR w p s F nob
  chg : Chg w0 w nob
  own : ∀ k, F k → w0.heap.size ≤ k
theorem PH.kept {w0 w w' : World} {p : Nat} {s : PS} {n : Nat} {F : Nat → Prop} (h : PH w0 w p s n F) (hc : Chg w w' nob) : PH w0 w' p s n F :=
  ⟨h.out, h.ok, h.pr.kept hc (fun _ _ => id) (fun _ _ => id), h.chg.trans hc (fun _ _ h => h), h.own⟩
theorem PH.fresh {w0 w : World} {p : Nat} {s : PS} {n : Nat} {F : Nat → Prop} (h : PH w0 w p s n F) {a b k : Nat} (hk : blkOf (.slice (some ⟨w.heap.size, 0, none⟩) a b) k) : ¬ F k := fun hF => by
  have e : w.heap.size = k := Option.some.inj (show some _ = some _ from hk)
  have := h.pr.lt hF
  omega
def outE (s : PS) : PS := { s with out := [] }
theorem PSok.outE {s : PS} {n : Nat} (h : PSok s n) : PSok (outE s) n := ⟨h.st0, h.st7, h.ctl, h.plen, Nat.zero_le _, h.tlen, h.rng⟩
theorem h_new (w : World) : Calls Try.prog 8 #[] w fun e w' => ∃ p, e = .returned (.pointer (some ⟨p, 0, none⟩)) ∧ PH w w' p newS 0 (fun k => k = p) ∧ Chg w w' nob ∧ p = w.heap.size :=
  (new_any w).mono fun e w' ⟨p, he, hc, hP, hp⟩ => ⟨p, he, ⟨rfl, newS_ok, hP, hc, fun k hk => by subst hk hp; exact Nat.le_refl _⟩, hc, hp⟩
theorem h_feed {w0 w : World} {p : Nat} {s : PS} {n : Nat} {F : Nat → Prop} (h : PH w0 w p s n F) (va : Value) (l : List Int) (ha : Rd w 1 va l.length (runesV l)) (hd : l ≠ [] → ∀ k, blkOf va k → ¬ F k) (hl : n + l.length ≤ 900000) :
    Calls Try.prog 11 #[.pointer (some ⟨p, 0, none⟩), va] w fun e w' =>
      ∃ v F' D, e = .returned v ∧ PH w0 w' p (outE (runS s l)) (n + l.length) F' ∧ EVS w' v (runS s l).out D ∧ Chg w w' F ∧ (∀ k, F' k → F k ∨ w.heap.size ≤ k) ∧ ∀ k, D k → (F k ∨ w.heap.size ≤ k) ∧ ¬ F' k ∧ k < w'.heap.size :=
  (feed_any h.pr h.out h.ok va l ha hd hl).mono fun e w' ⟨v, F', D, he, hc, hP, hE, hF, hD⟩ => ⟨v, F', D, he, ⟨rfl, (h.ok.run l).outE, hP, h.chg.trans hc (fun i hi hf => by have := h.own i hf; omega), fun k hk => by
    rcases hF k hk with h1 | h1
    · exact h.own k h1
    · exact Nat.le_trans h.chg.size h1⟩, hE, hc, hF, hD⟩

set_option maxRecDepth 100000 in
theorem first_run : runS newS [27, 91, 49, 59, 72] = ⟨0, [-1], false, 0, 0, false, [], [⟨4, 0, [1, -1], 0, 0, 72, .empty⟩]⟩ := rfl
theorem first_run2 : runS (outE ⟨0, [-1], false, 0, 0, false, [], [⟨4, 0, [1, -1], 0, 0, 72, .empty⟩]⟩) [27] = ⟨1, [-1], false, 0, 0, false, [], []⟩ := rfl
set_option maxRecDepth 100000 in
set_option maxHeartbeats 8000000 in
theorem efirst_any (w : World) : Calls Try.prog 7 #[] w fun e w' => e = .returned (.bool true) ∧ Chg w w' nob := by
  go_enter Try.func7, Try.ntmps7
  go_wp2_with fail
  go_at_call 8
  refine (h_new w).mono ?_
  rintro e w1 ⟨p, rfl, hP, -, -⟩
  have HP := Lib.hid hP
  clear hP
  go_wp2_with fail
  go_at_call 11
  have hl2 := (Own.lit w1 21 #[.int .i32 27, .int .i32 91, .int .i32 49, .int .i32 59, .int .i32 72] (by decide)).rd
  refine (h_feed (HP.out.kept ((Chg.refl w1 nob).alloc _)) _ [27, 91, 49, 59, 72] hl2 (fun _ k hk => HP.out.fresh hk) (by decide)).mono ?_
  rw [first_run]
  rintro e w2 ⟨v, F2, D2, rfl, hP2, hE2, -, -, hD2⟩
  obtain ⟨g, cap, pv, rfl, hcap, hmax, hpv, hpD, hcell⟩ := hE2.at (j := 0) rfl
  have c0 := hcell 0 (by omega)
  have c5 := hcell 5 (by omega)
  have c2 := hcell 2 (by omega)
  simp only [evc, List.getElem?_cons_zero, List.getElem?_cons_succ, Nat.zero_mul, Nat.zero_add] at c0 c2 c5
  have HP2 := Lib.hid hP2
  have HPV := Lib.hid hpv
  clear hP2 hE2 hD2 hcell hpv hpD hl2 HP
  obtain ⟨ap, cp, rfl, _, _⟩ := HPV.out.form
  go_wp2_with fail
  go_at_call 15
  refine (ints_eq (w2.alloc _) _ _ [1, -1] [1, -1] (HPV.out.kept ((Chg.refl w2 nob).alloc _) (fun _ _ => id)) (Own.lit w2 3 #[.int .i64 1, .int .i64 (-1)] (by decide)).rd (by decide) (by decide)).mono ?_
  rintro e w3 ⟨rfl, hc3⟩
  have HP3 := Lib.hid (HP2.out.kept (((Chg.refl w2 nob).alloc _).trans hc3 (fun _ _ h => h)))
  clear hc3 HP2 HPV
  go_wp2_with fail
  go_at_call 13
  refine (state_any HP3.out.pr).mono ?_
  rintro e w' ⟨rfl, rfl⟩
  go_wp2_with fail
  go_at_call 11
  have hl3 := (Own.lit w' 21 #[.int .i32 27] (by decide)).rd
  refine (h_feed (HP3.out.kept ((Chg.refl w' nob).alloc _)) _ [27] hl3 (fun _ k hk => HP3.out.fresh hk) (by decide)).mono ?_
  rw [first_run2]
  rintro e w4 ⟨v, F4, D4, rfl, hP4, hE4, -, -, hD4⟩
  obtain ⟨a4, cap4, rfl, _, _⟩ := hE4.len
  have HP4 := Lib.hid hP4
  clear hP4 hE4 hD4 hl3 HP3 c0 c2 c5
  go_wp2_with fail
  go_at_call 13
  refine (state_any HP4.out.pr).mono ?_
  rintro e w5 ⟨rfl, rfl⟩
  go_wp2_with fail
  go_ret
  exact ⟨rfl, HP4.out.chg⟩
end Go.Proofs.Ytaficleoimfejaa
