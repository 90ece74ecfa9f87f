/-
  Chapter 8: the walk of EscPlain.
-/
import Derived.Test.YtaficleoimfejaaEsc13
namespace Go.Proofs.Ytaficleoimfejaa
open Go.RowKit
set_option linter.unusedVariables false
set_option linter.unusedSimpArgs false

theorem plain_dec (r : Int) : plainR r ∨ r < 32 ∨ (127 ≤ r ∧ r ≤ 159) := by unfold plainR; omega
theorem all_snoc {l : List Int} {P : Int → Prop} {k : Nat} (h : k < l.length) (h1 : ∀ r ∈ l.take k, P r) (h2 : P (l.getD k 0)) : ∀ r ∈ l.take (k + 1), P r := by
  rw [take_snoc h 0]
  intro r hr
  rcases List.mem_append.1 hr with h | h
  · exact h1 r h
  · rw [List.mem_singleton] at h; subst h; exact h2
set_option maxRecDepth 100000 in
set_option maxHeartbeats 16000000 in
theorem EscPlain_walk (a0 : Option Addr) (len0 cap0 : Nat) (l0 : List Int) (a1 : Option Addr) (len1 cap1 : Nat) (l1 : List Int) (a2 : Bool) (w : World)
    (hr0 : Rd w 1 (.slice a0 len0 cap0) len0 (l0.map (Value.int .i32))) (hl0 : l0.length = len0) (y0 : len0 * 4 ≤ 140737488351232) (w0 : ∀ x ∈ l0, -2147483648 ≤ x ∧ x ≤ 2147483647)
    (hr1 : Rd w 1 (.slice a1 len1 cap1) len1 (l1.map (Value.int .i32))) (hl1 : l1.length = len1) (y1 : len1 * 4 ≤ 140737488351232) (w1 : ∀ x ∈ l1, -2147483648 ≤ x ∧ x ≤ 2147483647) (n1 : a1 = none → cap1 = 0) :
    Calls Try.prog 5 #[.slice a0 len0 cap0, .slice a1 len1 cap1, .bool a2] w fun e w' => e = .returned (.bool true) ∧ Chg w w' nob := by
  subst hl0 hl1
  have HR0 : Hid (Rd w 1 (.slice a0 l0.length cap0) l0.length (runesV l0)) := Lib.hid hr0
  have HR1 : Hid (Rd w 1 (.slice a1 l1.length cap1) l1.length (runesV l1)) := Lib.hid hr1
  have HN1 := Lib.hid (Rd.nil0 hr1 n1)
  clear hr0 hr1 n1 w0 w1 y0 y1
  go_enter Try.func5, Try.ntmps5
  go_wp2_with fail
  go_at_call 7
  refine (efirst_any _).mono ?_
  rintro e wA ⟨rfl, hA⟩
  have HA := Lib.hid hA
  clear hA
  by_cases hl : l0.length ≤ 500 ∧ l1.length ≤ 120
  · obtain ⟨h5, h1⟩ := hl
    have m1 : ¬ (500 : Int) < (l0.length : Int) := by omega
    have m2 : ¬ (120 : Int) < (l1.length : Int) := by omega
    go_wp2_with fail
    go_at_call 8
    refine (h_new wA).mono ?_
    rintro e wB ⟨p, rfl, hP, hB, -⟩
    have HP := Lib.hid (hP.before HA.out)
    clear hP hB
    go_wp2
    go_loopw [8] (fun i wr => wr = wB ∧ ∃ k : Nat, k ≤ l0.length ∧ i = .int .i64 k ∧ Hid (∀ r ∈ l0.take k, plainR r)) (fun i _ => l0.length - (intOf i).toNat)
    case atStart => exact ⟨rfl, 0, Nat.zero_le _, rfl, Lib.hid (fun r hr => by simp at hr)⟩
    case round =>
      obtain ⟨rfl, k, hk, rfl, HK⟩ := hrel
      by_cases hkl : k < l0.length
      · have hkn : (k : Int) < (l0.length : Int) := by omega
        obtain ⟨g, o, rfl, hcx⟩ := (HR0.out.kept HP.out.chg (fun _ _ => id)).cell (j := k) (u := .int .i32 (l0.getD k 0)) (by simp [runesV, List.getD, hkl])
        rcases plain_dec (l0.getD k 0) with hp | hp | ⟨hp, hq⟩
        · have HK2 := Lib.hid (all_snoc hkl HK.out hp)
          obtain ⟨hp1, hp2⟩ := hp
          generalize l0.getD k 0 = c at *
          by_cases hc : 127 ≤ c
          · have hc9 : ¬ c ≤ 159 := by omega
            clear hp2
            go_wp2
            go_roundw
            case rel => exact ⟨by first | rfl | trivial, k + 1, by omega, by go_num, HK2⟩
            case measure => simp [intOf]; omega
          · clear hp2
            go_wp2
            go_roundw
            case rel => exact ⟨by first | rfl | trivial, k + 1, by omega, by go_num, HK2⟩
            case measure => simp [intOf]; omega
        · generalize l0.getD k 0 = c at *
          go_wp2_with fail
          go_at_call 7
          refine (efirst_any _).mono ?_
          rintro e wC ⟨rfl, hC⟩
          go_wp2
          go_ret
          exact ⟨rfl, HP.out.chg.trans hC fun _ _ h => h⟩
        · generalize l0.getD k 0 = c at *
          have hp3 : ¬ c < 32 := by omega
          go_wp2_with fail
          go_at_call 7
          refine (efirst_any _).mono ?_
          rintro e wC ⟨rfl, hC⟩
          go_wp2
          go_ret
          exact ⟨rfl, HP.out.chg.trans hC fun _ _ h => h⟩
      · obtain rfl : k = l0.length := by omega
        rw [List.take_length] at HK
        go_wp2
        have hst : (outE (runS newS l0)).st = 0 := by rw [run_plain l0 newS rfl HK.out]; rfl
        go_loopw [9] (fun i wr2 => wr2 = wr ∧ ∃ k : Nat, k ≤ l1.length ∧ i = .int .i64 k ∧ Hid (∀ r ∈ l1.take k, textR r)) (fun i _ => l1.length - (intOf i).toNat)
        case atStart => exact ⟨by first | rfl | trivial, 0, Nat.zero_le _, rfl, Lib.hid (fun r hr => by simp at hr)⟩
        case round =>
          obtain ⟨rfl, k, hk, rfl, HT⟩ := hrel
          by_cases hkl : k < l1.length
          · have hkn : (k : Int) < (l1.length : Int) := by omega
            obtain ⟨g, o, rfl, hcx⟩ := (HR1.out.kept HP.out.chg (fun _ _ => id)).cell (j := k) (u := .int .i32 (l1.getD k 0)) (by simp [runesV, List.getD, hkl])
            by_cases hp : textR (l1.getD k 0)
            · have HT2 := Lib.hid (all_snoc hkl HT.out hp)
              obtain ⟨hp1, hp2⟩ := hp
              generalize l1.getD k 0 = c at *
              have hp1' : ¬ c < 32 := by omega
              have hp2' : ¬ 126 < c := by omega
              clear hp1 hp2
              go_wp2
              go_roundw
              case rel => exact ⟨by first | rfl | trivial, k + 1, by omega, by go_num, HT2⟩
              case measure => simp [intOf]; omega
            · by_cases hp1 : l1.getD k 0 < 32
              · clear hp
                generalize l1.getD k 0 = c at *
                go_wp2_with fail
                go_at_call 7
                refine (efirst_any _).mono ?_
                rintro e wC ⟨rfl, hC⟩
                go_wp2
                go_ret
                exact ⟨rfl, HP.out.chg.trans hC fun _ _ h => h⟩
              · have hp2 : 126 < l1.getD k 0 := by unfold textR at hp; omega
                clear hp
                generalize l1.getD k 0 = c at *
                go_wp2_with fail
                go_at_call 7
                refine (efirst_any _).mono ?_
                rintro e wC ⟨rfl, hC⟩
                go_wp2
                go_ret
                exact ⟨rfl, HP.out.chg.trans hC fun _ _ h => h⟩
          · obtain rfl : k = l1.length := by omega
            rw [List.take_length] at HT
            go_wp2_with fail
            go_at_call 11
            refine (h_feed HP.out _ l0 (HR0.out.kept HP.out.chg (fun _ _ => id)) (fun h0 k hk hF => by have h1 := HR0.out.lt (by simpa [runesV] using h0) hk; have h2 := HP.out.own k hF; omega) (by omega)).mono ?_
            rw [run_plain l0 newS rfl HK.out]
            rintro e wC ⟨v, F2, D2, rfl, hP2, hE2, -, -, hD2⟩
            have HP2 := Lib.hid hP2
            have HE2 := Lib.hid hE2
            obtain ⟨ao2, cap2, rfl, hcap2, hmax2⟩ := hE2.len
            have hlen2 : (newS.out ++ l0.map (fun r => ev0 1 r 0 0)).length = l0.length := by simp [newS]
            rw [hlen2] at hcap2
            rw [hlen2]
            clear hP2 hE2 hD2 HP
            go_wp2
            go_loopw [11] (fun i wr3 => ∃ k : Nat, k ≤ l0.length ∧ i = .int .i64 k ∧ Chg wC wr3 nob) (fun i _ => l0.length - (intOf i).toNat)
            case atStart => exact ⟨0, Nat.zero_le _, rfl, Chg.refl _ _⟩
            case round =>
              obtain ⟨k, hk, rfl, hC⟩ := hrel
              have HC := Lib.hid hC
              clear hC
              by_cases hkl : k < l0.length
              · have hkn : (k : Int) < (l0.length : Int) := by omega
                have hk0 : (0 : Int) ≤ (k : Int) := by omega
                obtain ⟨g, o, rfl, hcx⟩ := (HR0.out.kept ((HP2.out.kept HC.out).chg) (fun _ _ => id)).cell (j := k) (u := .int .i32 (l0.getD k 0)) (by simp [runesV, List.getD, hkl])
                obtain ⟨g2, cap2', pv, hv, _, _, _, _, hcell⟩ := (HE2.out.kept HC.out (fun _ _ => id)).at (j := k) (ev := ev0 1 (l0.getD k 0) 0 0) (by simp [newS, List.getD, hkl])
                rw [hlen2] at hv
                cases hv
                have e0 := hcell 0 (by omega)
                have e1 := hcell 1 (by omega)
                simp only [evc, ev0, List.getElem?_cons_zero, List.getElem?_cons_succ, Nat.add_zero] at e0 e1
                clear hcell
                generalize l0.getD k 0 = c at *
                go_wp2
                go_quiet (fail)
                go_wp2
                go_roundw
                case rel => exact ⟨k + 1, by omega, by go_num, HC.out.drewN _⟩
                case measure => simp [intOf]; omega
              · obtain rfl : k = l0.length := by omega
                have HP3 := Lib.hid (HP2.out.kept HC.out)
                clear HE2 HP2
                have hlit := Own.lit wr 21 #[.int .i32 27, .int .i32 93] (by decide)
                have hnews := Lib.hid ((HR1.out.kept (HP3.out.chg.alloc (.cells #[.int .i32 27, .int .i32 93] 21)) (fun _ _ => id)).news)
                have hone := Lib.hid (oneV .i32 l1)
                go_wp2_with (at_builtin; refine wpList_app rfl (.tmp 109) (.tmp 110) 22 rfl 21 (.int .i32 0) 1 4 i_rune u_runes rfl (by decide) (.slice (some ⟨wr.heap.size, 0, none⟩) 2 2) 2 _ rfl hlit a1 l1.length cap1 (runesV l1) rfl HN1.out (by simp [runesV]) hnews.out hone.out (by unfold maxLen; omega) (by omega) ?_)
                intro v4 w4 ho4 hch4 hfo4
                have hch4' : Chg (wr.alloc (.cells #[.int .i32 27, .int .i32 93] 21)) w4 (blkOf (.slice (some ⟨wr.heap.size, 0, none⟩) 2 2)) := hch4
                have hcn : Chg wr w4 nob := (((Chg.refl wr nob).alloc (.cells #[.int .i32 27, .int .i32 93] 21)).trans hch4' (fun i hi h => by have e : wr.heap.size = i := Option.some.inj (show some _ = some _ from h); omega))
                have hfr : ∀ k, blkOf v4 k → wr.heap.size ≤ k := fun k hk => by
                  rcases hfo4 k hk with h | h
                  · have e : wr.heap.size = k := Option.some.inj (show some _ = some _ from h); omega
                  · omega
                have HP4 := Lib.hid (HP3.out.kept hcn)
                have HO4 : Hid (Own w4 21 1 v4 (27 :: 93 :: l1).length (runesV (27 :: 93 :: l1))) := Lib.hid (by
                  have e : 2 + l1.length = (27 :: 93 :: l1).length := by simp; omega
                  rw [← e]; exact ho4)
                have HFR := Lib.hid hfr
                have HSZ := Lib.hid hcn.size
                have HP3F := Lib.hid (fun k hk => HP3.out.pr.lt (k := k) hk)
                clear hch4 hch4' hfo4 ho4 hlit hnews hone hcn hfr HP3
                go_wp2_with fail
                go_at_call 11
                refine (h_feed HP4.out _ (27 :: 93 :: l1) HO4.out.rd (fun _ k hk hF => by have h1 := HFR.out k hk; have h2 := HP3F.out k hF; omega) (by simp; omega)).mono ?_
                rw [run_open (outE _) rfl l1 h1 HT.out]
                rintro e w5 ⟨v5, F5, D5, rfl, hP5, hE5, -, -, hD5⟩
                have HP5 := Lib.hid hP5
                obtain ⟨ao5, cap5, rfl, _, _⟩ := hE5.len
                clear hP5 hE5 hD5 HP4 HO4 HFR HP3F
                go_wp2_with fail
                go_at_call 13
                refine (state_is HP5.out.pr 4 rfl).mono ?_
                rintro e w' ⟨rfl, rfl⟩
                go_upto_if 122 with (fail)
                go_cut [13] (fun v wx => Hid (Rd wx 1 v (endL a2).length (runesV (endL a2))) ∧ Hid (Chg w' wx nob) ∧ Hid (∀ k, blkOf v k → w'.heap.size ≤ k) ∧ ∃ a n c, v = .slice a n c)
                case first =>
                  cases a2 with
                  | false =>
                    go_wp2
                    go_meet
                    exact ⟨Lib.hid (Own.lit w' 21 #[.int .i32 27, .int .i32 92] (by decide)).rd, Lib.hid ((Chg.refl w' nob).alloc _), Lib.hid (fun k hk => by cases hk; exact Nat.le_refl _), _, _, _, rfl⟩
                  | true =>
                    go_wp2
                    go_meet
                    have h7 := (Own.lit (w'.alloc (.cells #[.int .i32 27, .int .i32 92] 21)) 21 #[.int .i32 7] (by decide)).rd
                    rw [size_al] at h7
                    exact ⟨Lib.hid h7, Lib.hid (((Chg.refl w' nob).alloc _).alloc _), Lib.hid (fun k hk => by cases hk; exact Nat.le_succ _), _, _, _, rfl⟩
                case rest =>
                  obtain ⟨HE, HEC, HEF, ea, en, ec, rfl⟩ := hcut
                  have HP6 := Lib.hid (HP5.out.kept HEC.out)
                  have hel : (endL a2).length ≤ 2 := by cases a2 <;> simp [endL]
                  go_wp2_with fail
                  go_at_call 11
                  refine (h_feed HP6.out _ (endL a2) HE.out (fun _ k hk hF => by have h1 := HEF.out k hk; have h2 := HP5.out.pr.lt (k := k) hF; omega) (by simp; omega)).mono ?_
                  rw [run_end2]
                  rintro e w6 ⟨v6, F6, D6, rfl, hP6, hE6, -, -, hD6⟩
                  have HP7 := Lib.hid hP6
                  have HE6 := Lib.hid hE6
                  obtain ⟨g6, cap6, pv6, rfl, _, _, _, _, _⟩ := hE6.at (j := 0) rfl
                  have hb31 : 4 * l1.length ≤ 1000000 := by omega
                  clear hP6 hE6 hD6 HP6 HP5 HE HEF hel
                  go_wp2_with (at_make; refine wpList_makeF _ rfl _ _ 44 rfl 5 (.int .u8 0) 1 1 (by kernel_rfl) u_bytes .i64 .i64 l1.length rfl rfl (by omega) (by unfold maxLen; omega) ?_)
                  intro w7 ho7 hc7
                  rw [made_bytes] at ho7
                  have HO7 := Lib.hid ho7
                  have HC7 := Lib.hid hc7
                  clear ho7 hc7
                  go_wp2
                  go_loopw [16] (fun i wr => ∃ k : Nat, k ≤ l1.length ∧ i = .int .i64 k ∧ Hid (Own wr 5 1 (.slice (some ⟨w6.heap.size, 0, none⟩) l1.length l1.length) l1.length (bytesV (l1.take k ++ List.replicate (l1.length - k) 0))) ∧ Hid (Chg w6 wr nob)) (fun i _ => l1.length - (intOf i).toNat)
                  case atStart => exact ⟨0, Nat.zero_le _, rfl, Lib.hid (by simpa using HO7.out), HC7⟩
                  case round =>
                    obtain ⟨k, hk, rfl, HO, HC⟩ := hrel
                    by_cases hkl : k < l1.length
                    · have hkn : (k : Int) < (l1.length : Int) := by omega
                      have hk0 : (0 : Int) ≤ (k : Int) := by omega
                      obtain ⟨g, o, rfl, hcx⟩ := (HR1.out.kept ((HP7.out.kept HC.out).chg) (fun _ _ => id)).cell (j := k) (u := .int .i32 (l1.getD k 0)) (by simp [runesV, List.getD, hkl])
                      have hcy := HO.out.cellAt k (by omega)
                      rw [show (bytesV (l1.take k ++ List.replicate (l1.length - k) 0))[k]? = some (.int .u8 0) by
                        simp only [bytesV, List.getElem?_map]
                        rw [List.getElem?_append_right (by simp; omega), List.length_take, Nat.min_eq_left hk, Nat.sub_self, List.getElem?_replicate, if_pos (by omega)]
                        rfl] at hcy
                      have hfy := HO.out.frozenAt k
                      have hx := HT.out (l1.getD k 0) (by simp [List.getD, hkl])
                      have hst := fill_set l1 hkl
                      generalize l1.getD k 0 = c at *
                      have hw8 : IntKind.u8.wrap c = c := by unfold textR at hx; exact wraps_u8 c (by omega) (by omega)
                      have HST := Lib.hid hst
                      clear hst hx
                      go_wp2
                      go_roundw
                      case rel =>
                        refine ⟨k + 1, by omega, by go_num, Lib.hid ?_, Lib.hid (HC.out.setCell (p := ⟨w6.heap.size, k, none⟩) (.inr (Nat.le_refl _)) _)⟩
                        have h := (HO.out.stored k (.int .u8 c)).1
                        rw [← HST.out]
                        simpa [bytesV, List.map_set] using h
                      case measure => simp [intOf]; omega
                    · obtain rfl : k = l1.length := by omega
                      rw [List.take_length, Nat.sub_self, List.replicate_zero, List.append_nil] at HO
                      have HP8 := Lib.hid (HP7.out.kept HC.out)
                      have HE8 := Lib.hid (HE6.out.kept HC.out (fun _ _ => id))
                      clear HP7 HE6 HO7 HC7
                      go_upto_region 38 with (fail)
                      obtain ⟨g7, cap7, pv7, hv7, _, _, _, _, hcell⟩ := HE8.out.at (j := 0) rfl
                      cases hv7
                      have e0 := hcell 0 (by omega)
                      have e6 := hcell 6 (by omega)
                      simp only [evc, List.getElem?_cons_zero, List.getElem?_cons_succ, Nat.zero_mul, Nat.zero_add] at e0 e6
                      rw [runes_str HT.out] at e6
                      clear hcell
                      refine wp_one [10, 17] [0, 19, 24] [(19, [17])] [0, 1, 2, 3, 4, 5, 6, 7, 8, 9, 10, 11, 12, 13, 14, 15, 16, 17, 18, 19, 20, 21, 22, 23, 24, 25, 26, 27] rfl (by kernel_rfl) (fun _ _ _ _ _ h => h) ?_; simp only [List.map_cons, List.map_nil, List.getElem?_toArray, List.getElem?_cons_zero, List.getElem?_cons_succ]
                      (repeat (first | (apply can0; (· rfl); (· rfl); (· (intro w'; first | (go_simp; with_reducible rfl) | (go_simp; done))); simp only [Act.put, List.setIfInBounds_toArray, List.set_cons_zero, List.set_cons_succ]) | (apply can1; (· rfl); (· rfl); (· (first | (go_simp; with_reducible rfl) | (go_simp; done))); simp only [Act.put, List.setIfInBounds_toArray, List.set_cons_zero, List.set_cons_succ]) | (apply canN; (· rfl); (· rfl); simp only [Act.put, List.setIfInBounds_toArray, List.set_cons_zero, List.set_cons_succ]) | (apply canN1; (· rfl); (· rfl); simp only [Act.put, List.setIfInBounds_toArray, List.set_cons_zero, List.set_cons_succ]) | (apply can0; (· rfl); (· (go_simp; done)); (· (intro w'; first | (go_simp; with_reducible rfl) | (go_simp; done))); simp only [Act.put, List.setIfInBounds_toArray, List.set_cons_zero, List.set_cons_succ]) | (apply can1; (· rfl); (· (go_simp; done)); (· (first | (go_simp; with_reducible rfl) | (go_simp; done))); simp only [Act.put, List.setIfInBounds_toArray, List.set_cons_zero, List.set_cons_succ]) | (apply canN; (· rfl); (· (go_simp; done)); simp only [Act.put, List.setIfInBounds_toArray, List.set_cons_zero, List.set_cons_succ]) | (apply canN1; (· rfl); (· (go_simp; done)); simp only [Act.put, List.setIfInBounds_toArray, List.set_cons_zero, List.set_cons_succ])))
                      refine canW rfl [] rfl (fun K hK => ?_)
                      go_simp
                      go_at_call 7
                      refine (efirst_any _).mono ?_
                      rintro e w9 ⟨rfl, h9⟩
                      have HP9 := Lib.hid (HP8.out.kept (((Chg.refl _ nob).drew).trans h9 (fun _ _ h => h)))
                      have HO9 := Lib.hid (HO.out.kept (((Chg.refl _ nob).drew).trans h9 (fun _ _ => id)) (fun _ _ => id))
                      have HE8 := Lib.hid (HE8.out.kept (((Chg.refl _ nob).drew).trans h9 (fun _ _ h => h)) (fun _ _ => id))
                      clear h9 e0 e6
                      obtain ⟨g7, cap7, pv7, hv7, _, _, _, _, hcell⟩ := HE8.out.at (j := 0) rfl
                      cases hv7
                      have e0 := hcell 0 (by omega)
                      have e6 := hcell 6 (by omega)
                      simp only [evc, List.getElem?_cons_zero, List.getElem?_cons_succ, Nat.zero_mul, Nat.zero_add] at e0 e6
                      rw [runes_str HT.out] at e6
                      clear hcell
                      have hcv := rd_string w9 _ l1 HO9.out.rd
                      (refine hK _ _ (fun u hu => by cases hu) ?_; clear hK K; try simp only [Act.put, List.setIfInBounds_toArray, List.set_cons_zero, List.set_cons_succ])
                      (repeat (first | (apply can0; (· rfl); (· rfl); (· (intro w'; first | (go_simp; with_reducible rfl) | (go_simp; done))); simp only [Act.put, List.setIfInBounds_toArray, List.set_cons_zero, List.set_cons_succ]) | (apply can1; (· rfl); (· rfl); (· (first | (go_simp; with_reducible rfl) | (go_simp; done))); simp only [Act.put, List.setIfInBounds_toArray, List.set_cons_zero, List.set_cons_succ]) | (apply canN; (· rfl); (· rfl); simp only [Act.put, List.setIfInBounds_toArray, List.set_cons_zero, List.set_cons_succ]) | (apply canN1; (· rfl); (· rfl); simp only [Act.put, List.setIfInBounds_toArray, List.set_cons_zero, List.set_cons_succ]) | (apply can0; (· rfl); (· (go_simp; done)); (· (intro w'; first | (go_simp; with_reducible rfl) | (go_simp; done))); simp only [Act.put, List.setIfInBounds_toArray, List.set_cons_zero, List.set_cons_succ]) | (apply can1; (· rfl); (· (go_simp; done)); (· (first | (go_simp; with_reducible rfl) | (go_simp; done))); simp only [Act.put, List.setIfInBounds_toArray, List.set_cons_zero, List.set_cons_succ]) | (apply canN; (· rfl); (· (go_simp; done)); simp only [Act.put, List.setIfInBounds_toArray, List.set_cons_zero, List.set_cons_succ]) | (apply canN1; (· rfl); (· (go_simp; done)); simp only [Act.put, List.setIfInBounds_toArray, List.set_cons_zero, List.set_cons_succ])))
                      refine canW rfl [17] rfl (fun K hK => ?_)
                      go_simp
                      (refine hK _ _ (fun u hu => by simp only [List.mem_cons, List.not_mem_nil, or_false] at hu; (first | (subst hu; exact reRun_mk rfl (by first | (go_simp; with_reducible rfl) | (go_simp; done)) (holds_at rfl)) | (rcases hu with rfl | rfl <;> exact reRun_mk rfl (by first | (go_simp; with_reducible rfl) | (go_simp; done)) (holds_at rfl)) | (rcases hu with rfl | rfl | rfl <;> exact reRun_mk rfl (by first | (go_simp; with_reducible rfl) | (go_simp; done)) (holds_at rfl)))) ?_; clear hK K; try simp only [Act.put, List.setIfInBounds_toArray, List.set_cons_zero, List.set_cons_succ])
                      (repeat (first | (apply can0; (· rfl); (· rfl); (· (intro w'; first | (go_simp; with_reducible rfl) | (go_simp; done))); simp only [Act.put, List.setIfInBounds_toArray, List.set_cons_zero, List.set_cons_succ]) | (apply can1; (· rfl); (· rfl); (· (first | (go_simp; with_reducible rfl) | (go_simp; done))); simp only [Act.put, List.setIfInBounds_toArray, List.set_cons_zero, List.set_cons_succ]) | (apply canN; (· rfl); (· rfl); simp only [Act.put, List.setIfInBounds_toArray, List.set_cons_zero, List.set_cons_succ]) | (apply canN1; (· rfl); (· rfl); simp only [Act.put, List.setIfInBounds_toArray, List.set_cons_zero, List.set_cons_succ]) | (apply can0; (· rfl); (· (go_simp; done)); (· (intro w'; first | (go_simp; with_reducible rfl) | (go_simp; done))); simp only [Act.put, List.setIfInBounds_toArray, List.set_cons_zero, List.set_cons_succ]) | (apply can1; (· rfl); (· (go_simp; done)); (· (first | (go_simp; with_reducible rfl) | (go_simp; done))); simp only [Act.put, List.setIfInBounds_toArray, List.set_cons_zero, List.set_cons_succ]) | (apply canN; (· rfl); (· (go_simp; done)); simp only [Act.put, List.setIfInBounds_toArray, List.set_cons_zero, List.set_cons_succ]) | (apply canN1; (· rfl); (· (go_simp; done)); simp only [Act.put, List.setIfInBounds_toArray, List.set_cons_zero, List.set_cons_succ])))
                      refine canW rfl [] rfl (fun K hK => ?_)
                      go_simp
                      go_at_call 13
                      refine (state_is HP9.out.pr 0 rfl).mono ?_
                      rintro e w' ⟨rfl, rfl⟩
                      (refine hK _ _ (fun u hu => by cases hu) ?_; clear hK K; try simp only [Act.put, List.setIfInBounds_toArray, List.set_cons_zero, List.set_cons_succ])
                      (repeat (first | (apply can0; (· rfl); (· rfl); (· (intro w'; first | (go_simp; with_reducible rfl) | (go_simp; done))); simp only [Act.put, List.setIfInBounds_toArray, List.set_cons_zero, List.set_cons_succ]) | (apply can1; (· rfl); (· rfl); (· (first | (go_simp; with_reducible rfl) | (go_simp; done))); simp only [Act.put, List.setIfInBounds_toArray, List.set_cons_zero, List.set_cons_succ]) | (apply canN; (· rfl); (· rfl); simp only [Act.put, List.setIfInBounds_toArray, List.set_cons_zero, List.set_cons_succ]) | (apply canN1; (· rfl); (· rfl); simp only [Act.put, List.setIfInBounds_toArray, List.set_cons_zero, List.set_cons_succ]) | (apply can0; (· rfl); (· (go_simp; done)); (· (intro w'; first | (go_simp; with_reducible rfl) | (go_simp; done))); simp only [Act.put, List.setIfInBounds_toArray, List.set_cons_zero, List.set_cons_succ]) | (apply can1; (· rfl); (· (go_simp; done)); (· (first | (go_simp; with_reducible rfl) | (go_simp; done))); simp only [Act.put, List.setIfInBounds_toArray, List.set_cons_zero, List.set_cons_succ]) | (apply canN; (· rfl); (· (go_simp; done)); simp only [Act.put, List.setIfInBounds_toArray, List.set_cons_zero, List.set_cons_succ]) | (apply canN1; (· rfl); (· (go_simp; done)); simp only [Act.put, List.setIfInBounds_toArray, List.set_cons_zero, List.set_cons_succ])))
                      refine canE ?_
                      go_wp2
                      go_ret
                      exact ⟨rfl, HP9.out.chg⟩
  · rcases (show 500 < l0.length ∨ (l0.length ≤ 500 ∧ 120 < l1.length) by omega) with c | ⟨c, c'⟩
    · have m1 : (500 : Int) < (l0.length : Int) := by omega
      go_wp2_with fail
      go_at_call 7
      refine (efirst_any _).mono ?_
      rintro e wC ⟨rfl, hC⟩
      go_wp2
      go_ret
      exact ⟨rfl, HA.out.trans hC fun _ _ h => h⟩
    · have m1 : ¬ (500 : Int) < (l0.length : Int) := by omega
      have m2 : (120 : Int) < (l1.length : Int) := by omega
      go_wp2_with fail
      go_at_call 7
      refine (efirst_any _).mono ?_
      rintro e wC ⟨rfl, hC⟩
      go_wp2
      go_ret
      exact ⟨rfl, HA.out.trans hC fun _ _ h => h⟩
end Go.Proofs.Ytaficleoimfejaa
