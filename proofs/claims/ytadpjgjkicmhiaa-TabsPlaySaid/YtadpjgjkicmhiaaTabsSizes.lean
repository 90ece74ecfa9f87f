/-
  Chapter 10: the walk of TabsSizes.
-/
import Derived.Test.YtadpjgjkicmhiaaTabs6
import Derived.Deep.DeepCutAuto
namespace Go.Proofs.Ytadpjgjkicmhiaa
open Go.RowKit
set_option linter.unusedVariables false
set_option linter.unusedSimpArgs false
attribute [local go_sem ↓] run_min_two run_max_two

set_option maxHeartbeats 1000000 in
theorem has_any (w : World) (va : Value) (xs : List Int) (n : Int) (ha : Rd w 1 va xs.length (intI xs)) (hl : xs.length ≤ 140737488351232) :
    Calls Try.prog 13 #[va, .int .i64 n] w fun e w' => e = .returned (.bool (decide (n ∈ xs))) ∧ w' = w := by
  obtain ⟨a1, c1, rfl, hn1, _, hx1⟩ := ha
  have hcA : ∀ k, k < xs.length → ∃ b o, a1 = some ⟨b, o, none⟩ ∧ w.cell? ⟨b, o + k, none⟩ = some (.int .i64 (xs.getD k 0)) := fun k hk => hx1 k _ (by simp [intI, List.getD, hk])
  have HA := Lib.hid hcA
  clear hcA hx1
  go_enter Try.func13, Try.ntmps13
  go_wp2
  go_loop [5] (fun i => ∃ k : Nat, k ≤ xs.length ∧ i = .int .i64 k ∧ Hid (n ∉ xs.take k)) (fun i => xs.length - (intOf i).toNat)
  case atStart => exact ⟨0, Nat.zero_le _, rfl, by simp [Hid]⟩
  case round =>
    obtain ⟨k, hk, rfl, HN⟩ := hrel
    by_cases hkl : k < xs.length
    · obtain ⟨b, o, rfl, hc⟩ := HA.out k hkl
      obtain ⟨x, hx⟩ : ∃ x, xs.getD k 0 = x := ⟨_, rfl⟩
      rw [hx] at hc
      have HX := Lib.hid hx
      clear hx
      have hki : (k : Int) < (xs.length : Int) := by omega
      have hsn : xs.take (k + 1) = xs.take k ++ [x] := by
        rw [List.take_succ_eq_append_getElem hkl]; have := HX.out; simp [List.getD, hkl] at this; rw [this]
      have HS := Lib.hid hsn
      clear hsn
      by_cases hxn : x = n
      · have hb : (x == n) = true := by simpa using hxn
        have hin : decide (n ∈ xs) = true := by
          simp only [decide_eq_true_eq]
          exact List.mem_of_mem_take (i := k + 1) (by rw [HS.out]; simp [hxn])
        have HI := Lib.hid hin
        clear hin hxn
        go_wp2
        go_ret
        exact ⟨by rw [HI.out]; rfl, rfl⟩
      · have hb : (x == n) = false := by simpa using hxn
        have HXN := Lib.hid hxn
        clear hxn
        go_wp2
        go_round
        case rel => exact ⟨k + 1, by omega, by go_num, by unfold Hid; rw [HS.out]; simp only [List.mem_append, List.mem_singleton, not_or]; exact ⟨HN.out, fun h => HXN.out h.symm⟩⟩
        case measure => simp [intOf]; omega
    · obtain rfl : k = xs.length := by omega
      go_wp2
      go_ret
      have := HN.out
      rw [List.take_length] at this
      exact ⟨by rw [decide_eq_false this]; rfl, rfl⟩

theorem stops_fresh : ∀ n, n ≤ 200 → stopsOf (fresh 0 n) = (List.range ((n - 1) / 8)).map (fun j => 8 * (j + 1)) := by decide +kernel
theorem fresh_get {n k : Nat} (h : k < n) : (fresh 0 n)[k]? = some (eighth k) := by
  unfold fresh; simp [List.getElem?_range', h]
theorem fresh_len (n : Nat) : (fresh 0 n).length = n := by simp [fresh]
theorem fresh_getD {n k : Nat} (h : (fresh 0 n).getD k false = true) : k % 8 = 0 ∧ 0 < k := by
  rcases Nat.lt_or_ge k n with hk | hk
  · rw [List.getD_eq_getElem?_getD, fresh_get hk] at h
    simp [eighth] at h
    omega
  · rw [List.getD_eq_getElem?_getD, List.getElem?_eq_none (by rw [fresh_len]; exact hk)] at h
    simp at h
theorem up_far (n : Nat) : ∀ d c m, d + c % 8 < 8 * m → up (fresh 0 n) d c m = c + d
  | 0, c, m, h => by simp [up]
  | d + 1, c, m, h => by
    unfold up
    rw [if_neg (by omega)]
    cases hx : (fresh 0 n).getD (c + 1) false with
    | true => rw [if_pos rfl, up_far n d (c + 1) (m - 1) (by have := fresh_getD hx; omega)]; omega
    | false => rw [if_neg (by simp), up_far n d (c + 1) m (by omega)]; omega
theorem dn_far (n : Nat) : ∀ c m, (c + 7) / 8 < m → dn (fresh 0 n) c m = 0
  | 0, m, h => by simp [dn]
  | c + 1, m, h => by
    unfold dn
    rw [if_neg (by omega)]
    cases hx : (fresh 0 n).getD c false with
    | true => rw [if_pos rfl, dn_far n c (m - 1) (by have := fresh_getD hx; omega)]
    | false => rw [if_neg (by simp), dn_far n c m (by omega)]
theorem next_fresh (n : Nat) (h : n ≤ 200) (h0 : n ≠ 0) : nextF (fresh 0 n) 0 99 = n - 1 := by
  have h1 : clampC (fresh 0 n) 0 = 0 := by simp [clampC]
  have h2 : clampN 99 = 99 := by decide
  unfold nextF
  rw [h1, h2, fresh_len, up_far n _ _ _ (by omega)]
  omega
theorem prev_fresh (n : Nat) (h : n ≤ 200) (h0 : n ≠ 0) : prevF (fresh 0 n) (n : Int) 99 = 0 := by
  have h1 : clampC (fresh 0 n) n = n - 1 := by simp [clampC, fresh_len]
  have h2 : clampN 99 = 99 := by decide
  unfold prevF
  rw [h1, h2, dn_far n _ _ (by omega)]
theorem fresh_at {i k j : Nat} (h : j < k - i) : (fresh i k)[j]? = some (eighth (i + j)) := by
  unfold fresh; simp [List.getElem?_range', h]
theorem resized_fresh (c k : Nat) : resized (fresh 0 c) k = fresh 0 k := by
  apply List.ext_getElem?
  intro i
  rcases Nat.lt_or_ge i k with hi | hi
  · rw [fresh_get hi]
    unfold resized
    rcases Nat.lt_or_ge i c with hc | hc
    · rw [List.getElem?_append_left (by simp [fresh_len]; omega), List.getElem?_take_of_lt hi, fresh_get hc]
    · have hl : ((fresh 0 c).take k).length = c := by simp [fresh_len]; omega
      rw [List.getElem?_append_right (by omega), hl, fresh_len, fresh_at (by omega), show c + (i - c) = i by omega]
  · rw [List.getElem?_eq_none (by rw [length_resized]; exact hi), List.getElem?_eq_none (by rw [fresh_len]; exact hi)]
theorem set_twice {l : List Bool} {k : Nat} {x : Bool} (h : l[k]? = some x) (y : Bool) : ((l.set k true).set k false).set k x = l := by
  simp only [List.set_set]
  apply List.ext_getElem?
  intro i
  by_cases hik : k = i
  · subst hik
    have := (List.getElem?_eq_some_iff.1 h).1
    rw [List.getElem?_set_self this, h]
  · rw [List.getElem?_set_ne hik]
theorem stopsFrom_get : ∀ (l : List Bool) (i x : Nat), i ≤ x → l[x - i]? = some true → x ∈ stopsFrom i l
  | [], i, x, _, h => by simp at h
  | y :: r, i, x, hi, h => by
    by_cases hx : x = i
    · subst hx
      simp at h
      subst h
      simp [stopsFrom]
    · have h' : r[x - (i + 1)]? = some true := by
        rw [show x - i = (x - (i + 1)) + 1 by omega] at h
        simpa using h
      have := stopsFrom_get r (i + 1) x (by omega) h'
      cases y <;> simp [stopsFrom, this]
theorem stopsOf_iff {l : List Bool} {x : Nat} : x ∈ stopsOf l ↔ l[x]? = some true := by
  constructor
  · intro h
    have := stopsOf_mem h
    rw [List.getElem?_eq_getElem this.1]
    have h2 := this.2
    simp [List.getD, this.1] at h2
    rw [h2]
  · intro h
    exact stopsFrom_get l 0 x (Nat.zero_le _) (by simpa using h)

theorem Here.from {w0 w1 w : World} {b : Nat} {l : List Bool} (h1 : Chg w0 w1 nob) (h : Here w1 w b l) : Here w0 w b l := by
  obtain ⟨F, hs, hc, hF⟩ := h
  exact ⟨F, hs, h1.trans hc fun _ _ h => h, fun k hk => Nat.le_trans h1.size (hF k hk)⟩
theorem h_has (w : World) (v : Value) (t : TypeId) (l : List Bool) (k : Nat) (x : Bool) (ho : Own w t 1 v (stopsOf l).length (intsV (stopsOf l))) (hl : l.length ≤ 200) (hx : l[k]? = some x) :
    Calls Try.prog 13 #[v, .int .i64 k] w fun e w' => e = .returned (.bool x) ∧ w' = w := by
  have hle : (stopsOf l).length ≤ 200 := by have := stopsFrom_le l 0; unfold stopsOf; omega
  refine (has_any w v ((stopsOf l).map fun (n : Nat) => (n : Int)) k (by rw [← intsV_intI, List.length_map]; exact ho.rd) (by simp; omega)).mono fun e w' ⟨he, hw⟩ => ⟨?_, hw⟩
  rw [he]
  congr 2
  have : ((k : Int) ∈ (stopsOf l).map fun (n : Nat) => (n : Int)) ↔ x = true := by
    rw [List.mem_map]
    constructor
    · rintro ⟨y, hy, hyk⟩
      obtain rfl : y = k := by omega
      rw [stopsOf_iff, hx] at hy
      exact Option.some.inj hy
    · rintro rfl
      exact ⟨k, stopsOf_iff.2 hx, rfl⟩
  cases x <;> simp_all
theorem resize_out {w0 w : World} {b : Nat} {l : List Bool} (h : Here w0 w b l) (c : Int) (h1 : c < 1 ∨ 200 < c) :
    Calls Try.prog 15 #[.pointer (some ⟨b, 0, none⟩), .int .i64 c] w fun e w' => e = .returned (.int .i64 1) ∧ w' = w := resize_not w b c h1

set_option maxRecDepth 100000 in
set_option maxHeartbeats 8000000 in
theorem TabsSizes_walk (a0 a1 a2 : Int) (w : World)
    (w0 : -9223372036854775808 ≤ a0 ∧ a0 ≤ 9223372036854775807) (w1 : -9223372036854775808 ≤ a1 ∧ a1 ≤ 9223372036854775807) (w2 : -9223372036854775808 ≤ a2 ∧ a2 ≤ 9223372036854775807) :
    Calls Try.prog 4 #[.int .i64 a0, .int .i64 a1, .int .i64 a2] w fun e w' => e = .returned (.bool true) ∧ Chg w w' nob := by
  by_cases hc : 1 ≤ a0 ∧ a0 ≤ 200
  · by_cases hE : 0 ≤ a2 ∧ a2 < a0
    · obtain ⟨h2, h3⟩ := hE
      obtain ⟨c, rfl⟩ := Int.eq_ofNat_of_zero_le (show 0 ≤ a0 by omega)
      obtain ⟨k, rfl⟩ := Int.eq_ofNat_of_zero_le h2
      have hkc : k < (fresh 0 c).length := by rw [fresh_len]; omega
      have hkx := fresh_get (n := c) (k := k) (by omega)
      clear h2
      go_enter Try.func4, Try.ntmps4
      go_wp2_with fail
      go_at_call 6
      refine (first_any w).mono ?_
      rintro e wA ⟨rfl, hA⟩
      have HA := Lib.hid hA
      clear hA
      go_wp2_with fail
      go_at_call 7
      refine (h_new wA (c : Int) (by omega) (by omega)).mono ?_
      rintro e wB ⟨b, rfl, hB⟩
      have HB : Hid (Here w wB b (fresh 0 c)) := Lib.hid (Here.from HA.out hB)
      have HK := Lib.hid hkc
      have HX := Lib.hid hkx
      clear hB HA hkc hkx
      go_upto_region 6 with (fail)
      go_cut [9] (fun v wx => v = .bool (eighth k) ∧ wx = wB)
      case first =>
        go_wp2
        all_goals go_meet
        all_goals (refine ⟨?_, rfl⟩)
        all_goals (congr 1; simp [eighth]; omega)
      case rest =>
        obtain ⟨rfl, rfl⟩ := hcut
        generalize eighth k = on at HX ⊢
        have s1 : ((fresh 0 c).set k true)[k]? = some true := List.getElem?_set_self HK.out
        have s2 : (((fresh 0 c).set k true).set k false)[k]? = some false := List.getElem?_set_self (by simpa using HK.out)
        have S1 := Lib.hid s1
        have S2 := Lib.hid s2
        clear s1 s2
        go_wp2_with fail
        go_at_call 9
        refine (h_set HB.out k HK.out).mono ?_
        rintro e w1 ⟨rfl, h1⟩
        have H1 := Lib.hid h1
        clear h1 HB
        go_wp2_with fail
        go_at_call 12
        refine (h_list H1.out).mono ?_
        rintro e w2 ⟨v1, rfl, ho, _, h2⟩
        have H2 := Lib.hid h2
        have HO := Lib.hid ho
        clear h2 H1 ho
        go_wp2_with fail
        go_at_call 13
        refine (h_has w2 v1 _ _ k _ HO.out H2.out.len S1.out).mono ?_
        rintro e w3 ⟨rfl, rfl⟩
        clear HO
        go_wp2_with fail
        go_at_call 14
        refine (h_clr H2.out k (by simpa using HK.out)).mono ?_
        rintro e w4 ⟨rfl, h1⟩
        have H4 := Lib.hid h1
        clear h1 H2
        go_wp2_with fail
        go_at_call 12
        refine (h_list H4.out).mono ?_
        rintro e w5 ⟨v2, rfl, ho, _, h2⟩
        have H5 := Lib.hid h2
        have HO := Lib.hid ho
        clear h2 H4 ho
        go_wp2_with fail
        go_at_call 13
        refine (h_has w5 v2 _ _ k _ HO.out H5.out.len S2.out).mono ?_
        rintro e w6 ⟨rfl, rfl⟩
        clear HO
        go_wp2_with fail
        go_at_call 9
        refine (h_setNot H5.out c (by right; simp [fresh_len])).mono ?_
        rintro e w7 ⟨rfl, rfl⟩
        go_wp2_with fail
        go_at_call 14
        refine (h_clrNot H5.out (-1) (by omega)).mono ?_
        rintro e w8 ⟨rfl, rfl⟩
        go_upto_region 9 with (fail)
        go_cut [83] (fun v wx => v = .bool false ∧ Hid (Here w wx b (fresh 0 c)))
        case first =>
          cases on with
          | true =>
            go_wp2_with fail
            go_at_call 9
            refine (h_set H5.out k (by simpa using HK.out)).mono ?_
            rintro e w9 ⟨rfl, h1⟩
            rw [set_twice HX.out true] at h1
            have H9 := Lib.hid h1
            clear h1
            go_wp2_with fail
            go_meet
            exact ⟨rfl, H9⟩
          | false =>
            go_wp2_with fail
            go_meet
            refine ⟨rfl, ?_⟩
            have := H5.out
            have hs := set_twice HX.out true
            rw [List.set_set] at hs this
            rw [List.set_set] at hs
            rw [hs] at this
            exact this
        case rest =>
          obtain ⟨rfl, HB⟩ := hcut
          clear H5 S1 S2 HX HK
          by_cases hm : 1 ≤ a1 ∧ a1 ≤ 200
          · obtain ⟨m, rfl⟩ := Int.eq_ofNat_of_zero_le (show 0 ≤ a1 by omega)
            go_wp2_with fail
            go_at_call 15
            refine (h_resize HB.out m (by omega) (by omega)).mono ?_
            rintro e wr ⟨rfl, hR⟩
            rw [resized_fresh, show ((m : Int)).toNat = m from rfl] at hR
            have HR := Lib.hid hR
            clear hR HB
            go_wp2_with fail
            obtain ⟨wo, rfl⟩ : ∃ wo : World, wo = wr := ⟨_, rfl⟩
            go_loopw [11, 12] (fun v i wt => ∃ j : Nat, j ≤ (m - 1) / 8 ∧ i = .int .i64 (8 * (j + 1) : Nat) ∧ Own wt 3 1 v j (intsV ((List.range j).map fun j => 8 * (j + 1))) ∧ Chg wo wt nob ∧ ∀ x, blkOf v x → wo.heap.size ≤ x)
              (fun _ i _ => 240 - (intOf i).toNat)
            case atStart => exact ⟨0, Nat.zero_le _, rfl, World.ownsRow_nil wo 0 3 1, Chg.refl _ _, fun x hx => by cases hx⟩
            case round =>
              obtain ⟨j, hj, rfl, hor, hch, hfo⟩ := hrel
              by_cases hjm : j < (m - 1) / 8
              · have hlt : ((8 * (j + 1) : Nat) : Int) < (m : Int) := by omega
                generalize hq : 8 * (j + 1) = q at hlt ⊢
                have HQ := Lib.hid hq
                clear hq
                go_wp2_with (at_builtin; refine wpList_push rfl (.tmp 103) (.tmp 105) 22 rfl 3 (.int .i64 0) 1 8 i_int u_ints rfl (by decide) _ _ _ rfl hor 1 1 rfl rfl rfl (by unfold maxLen; omega) (by omega) ?_)
                intro v' w1 hor1 hch1 hfo1
                go_wp2
                go_roundw
                case rel =>
                  have := HQ.out
                  refine ⟨j + 1, by omega, by go_num, ?_, hch.trans hch1 (fun i hi h => by have := hfo i h; omega), fun x hx => ?_⟩
                  · rw [List.range_succ, List.map_append]; simp only [List.map_cons, List.map_nil, HQ.out]; simpa [intsV] using hor1
                  · rcases hfo1 x hx with h | h
                    · exact hfo x h
                    · exact Nat.le_trans hch.size h
                case measure => simp [intOf]; omega
              · obtain rfl : j = (m - 1) / 8 := by omega
                have hH : Here w wr b (fresh 0 m) := HR.out.kept hch
                have HH := Lib.hid hH
                have HO := Lib.hid hor
                clear hH hor hch hfo HR hjm
                have hle : ¬ (((8 * ((m - 1) / 8 + 1) : Nat) : Int) < (m : Int)) := by omega
                have hls : (m - 1) / 8 ≤ 200 := by omega
                generalize 8 * ((m - 1) / 8 + 1) = q at hle ⊢
                go_wp2_with fail
                go_at_call 12
                refine (h_list HH.out).mono ?_
                rintro e ws ⟨u, rfl, ho, hcs, h2⟩
                rw [stops_fresh m (by omega)] at ho
                have hl0 : ((List.range ((m - 1) / 8)).map fun j => 8 * (j + 1)).length = (m - 1) / 8 := by simp
                have how : Own ws 3 1 _ _ _ := HO.out.kept hcs (fun _ _ => id)
                rw [hl0] at ho
                generalize ((List.range ((m - 1) / 8)).map fun j => 8 * (j + 1)) = L at *
                generalize (m - 1) / 8 = n at *
                obtain ⟨aw, cw, rfl, _⟩ := how.form
                obtain ⟨au, cu, rfl, _⟩ := ho.form
                have hW : ∀ wt, Chg ws wt nob → ∀ k, k < n → (∃ g, aw = some ⟨g, 0, none⟩ ∧ wt.cell? ⟨g, k, none⟩ = some (.int .i64 (L.getD k 0 : Nat))) ∧ ∃ g, au = some ⟨g, 0, none⟩ ∧ wt.cell? ⟨g, k, none⟩ = some (.int .i64 (L.getD k 0 : Nat)) := fun wt hch k hk => by
                  refine ⟨?_, ?_⟩
                  · obtain ⟨g, h1, h2⟩ := how.at hk
                    exact ⟨g, h1, hch.cell (by rw [h2]; simp [intsV, List.getD, hl0, hk]) id⟩
                  · obtain ⟨g, h1, h2⟩ := ho.at hk
                    exact ⟨g, h1, hch.cell (by rw [h2]; simp [intsV, List.getD, hl0, hk]) id⟩
                have HW := Lib.hid hW
                have H2 := Lib.hid h2
                clear hW how ho h2 HO hcs HH
                go_wp2_with fail
                obtain ⟨wx, rfl⟩ : ∃ wx : World, wx = ws := ⟨_, rfl⟩
                go_loopw [14] (fun i wt => ∃ k : Nat, k ≤ n ∧ i = .int .i64 k ∧ Chg wx wt nob) (fun i _ => n - (intOf i).toNat)
                case atStart => exact ⟨0, Nat.zero_le _, rfl, Chg.refl _ _⟩
                case round =>
                  obtain ⟨y, hy, rfl, hct⟩ := hrel
                  by_cases hyl : y < n
                  · obtain ⟨⟨g1, rfl, hc1⟩, g2, rfl, hc2⟩ := HW.out wr hct y hyl
                    have hki : (y : Int) < (n : Int) := by omega
                    generalize L.getD y 0 = x at hc1 hc2
                    go_wp2
                    refine wp_one [3, 7] [] [] [0, 1, 2, 3, 4, 5, 6, 7, 8] rfl (by kernel_rfl) (fun _ _ _ _ _ h => h) ?_; simp only [List.map_cons, List.map_nil, List.getElem?_toArray, List.getElem?_cons_zero, List.getElem?_cons_succ]
                    (repeat (first | (apply can0; (· rfl); (· rfl); (· (intro w'; first | (go_simp; with_reducible rfl) | (go_simp; done))); simp only [Act.put, List.setIfInBounds_toArray, List.set_cons_zero, List.set_cons_succ]) | (apply can1; (· rfl); (· rfl); (· (first | (go_simp; with_reducible rfl) | (go_simp; done))); simp only [Act.put, List.setIfInBounds_toArray, List.set_cons_zero, List.set_cons_succ]) | (apply canN; (· rfl); (· rfl); simp only [Act.put, List.setIfInBounds_toArray, List.set_cons_zero, List.set_cons_succ]) | (apply canN1; (· rfl); (· rfl); simp only [Act.put, List.setIfInBounds_toArray, List.set_cons_zero, List.set_cons_succ]) | (apply can0; (· rfl); (· (go_simp; done)); (· (intro w'; first | (go_simp; with_reducible rfl) | (go_simp; done))); simp only [Act.put, List.setIfInBounds_toArray, List.set_cons_zero, List.set_cons_succ]) | (apply can1; (· rfl); (· (go_simp; done)); (· (first | (go_simp; with_reducible rfl) | (go_simp; done))); simp only [Act.put, List.setIfInBounds_toArray, List.set_cons_zero, List.set_cons_succ]) | (apply canN; (· rfl); (· (go_simp; done)); simp only [Act.put, List.setIfInBounds_toArray, List.set_cons_zero, List.set_cons_succ]) | (apply canN1; (· rfl); (· (go_simp; done)); simp only [Act.put, List.setIfInBounds_toArray, List.set_cons_zero, List.set_cons_succ])))
                    refine canE ?_
                    go_wp2
                    go_roundw
                    case rel => exact ⟨y + 1, by omega, by go_num, hct.drew⟩
                    case measure => simp [intOf]; omega
                  · obtain rfl : y = n := by omega
                    have hH : Here w wr b (fresh 0 m) := H2.out.kept hct
                    have HH := Lib.hid hH
                    clear hH HW H2
                    go_wp2_with fail
                    go_at_call 6
                    refine (first_any wr).mono ?_
                    rintro e wE ⟨rfl, hE⟩
                    have hH : Here w wE b (fresh 0 m) := HH.out.kept hE
                    have HE := Lib.hid hH
                    clear hH HH hE
                    go_wp2_with fail
                    go_at_call 10
                    refine (h_next HE.out 0 99 (by rw [fresh_len]; omega) (by omega) (by omega) (by omega) (by omega)).mono ?_
                    rintro e w2 ⟨rfl, rfl⟩
                    rw [next_fresh m (by omega) (by omega)]
                    go_wp2_with fail
                    go_at_call 11
                    refine (h_prev HE.out m 99 (by rw [fresh_len]; omega) (by omega) (by omega) (by omega) (by omega)).mono ?_
                    rintro e w2 ⟨rfl, rfl⟩
                    rw [prev_fresh m (by omega) (by omega)]
                    go_wp2_with fail
                    go_ret
                    exact ⟨rfl, HE.out.chg⟩
          · go_wp2_with fail
            go_at_call 15
            refine (resize_out HB.out a1 (by omega)).mono ?_
            rintro e wr ⟨rfl, rfl⟩
            have hm' : a1 < 1 ∨ 200 < a1 := by omega
            clear hm
            go_wp2_with fail
            all_goals
              go_at_call 6
              refine (first_any _).mono ?_
              rintro e wC ⟨rfl, hC⟩
              have HC := Lib.hid hC
              clear hC
              go_wp2_with fail
              go_ret
              exact ⟨rfl, HB.out.chg.trans HC.out fun _ _ h => h⟩
    · have hE' : a2 < 0 ∨ a0 ≤ a2 := by omega
      clear hE
      go_enter Try.func4, Try.ntmps4
      go_wp2_with fail
      go_at_call 6
      refine (first_any w).mono ?_
      rintro e wA ⟨rfl, hA⟩
      have HA := Lib.hid hA
      clear hA
      go_wp2_with fail
      go_at_call 7
      refine (new_any wA a0 (by omega) (by omega)).mono ?_
      rintro e wB ⟨b, F, rfl, hs, hB, hF⟩
      have HB := Lib.hid hB
      clear hB hs hF
      go_wp2_with fail
      all_goals
        go_at_call 6
        refine (first_any wB).mono ?_
        rintro e wC ⟨rfl, hC⟩
        have HC := Lib.hid hC
        clear hC
        go_wp2_with fail
        go_ret
        exact ⟨rfl, (HA.out.trans HB.out fun _ _ h => h).trans HC.out fun _ _ h => h⟩
  · go_enter Try.func4, Try.ntmps4
    go_wp2_with fail
    go_at_call 6
    refine (first_any w).mono ?_
    rintro e wA ⟨rfl, hA⟩
    have HA := Lib.hid hA
    clear hA
    go_wp2_with fail
    go_at_call 7
    refine (new_not wA a0 (by omega)).mono ?_
    rintro e wB ⟨rfl, hB⟩
    have HB := Lib.hid hB
    clear hB
    go_wp2_with fail
    go_at_call 6
    refine (first_any wB).mono ?_
    rintro e wC ⟨rfl, hC⟩
    have HC := Lib.hid hC
    clear hC
    go_wp2_with fail
    go_ret
    exact ⟨rfl, (HA.out.trans HB.out fun _ _ h => h).trans HC.out fun _ _ h => h⟩
end Go.Proofs.Ytadpjgjkicmhiaa
