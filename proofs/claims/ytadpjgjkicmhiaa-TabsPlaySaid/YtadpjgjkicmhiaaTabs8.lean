/-
  Chapter 10, the document's answer: the other calls.
-/
import Derived.Test.YtadpjgjkicmhiaaTabs7
namespace Go.Proofs.Ytadpjgjkicmhiaa
open Go.RowKit
set_option linter.unusedVariables false
set_option linter.unusedSimpArgs false
attribute [local go_sem ↓] run_min_two run_max_two

set_option maxHeartbeats 1000000 in
theorem rnew_any (w : World) (c : Int) (h1 : 1 ≤ c) (h2 : c ≤ 200) :
    Calls Try.prog 16 #[.int .i64 c] w fun e w' =>
      ∃ b F, e = .returned (.tuple #[.pointer (some ⟨b, 0, none⟩), .int .i64 0]) ∧ RStops w' b (fresh 0 c.toNat) F ∧ Chg w w' nob ∧ ∀ k, F k → w.heap.size ≤ k := by
  obtain ⟨n, rfl⟩ := Int.eq_ofNat_of_zero_le (show 0 ≤ c by omega)
  have hs : RStops (w.alloc (.cells #[.slice none 0 0] 44)) w.heap.size [] (fun k => k = w.heap.size ∨ blkOf (.slice none 0 0) k) :=
    ⟨.slice none 0 0, Blk.new w _ _, World.ownsRow_nil _ _ _ _, rfl, by simp⟩
  go_enter Try.func16, Try.ntmps16
  go_wp2_with (go_at_call 25; refine (grow_any _ _ _ _ _ hs (by omega) (by simp)).mono ?_; rintro e w1 ⟨rfl, hu⟩)
  go_ret2
  obtain ⟨hch, F', hs', hF⟩ := hu
  refine ⟨w.heap.size, F', rfl, by simpa using hs', ((Chg.refl w nob).alloc _).trans hch (fun i hi h => ?_), fun k hk => ?_⟩
  · rcases h with h | h
    · omega
    · cases h
  · rcases hF k hk with (h | h) | h
    · omega
    · cases h
    · simp at h; omega

set_option maxHeartbeats 1000000 in
theorem rnew_not (w : World) (c : Int) (h1 : c < 1 ∨ 200 < c) :
    Calls Try.prog 16 #[.int .i64 c] w fun e w' => e = .returned (.tuple #[.pointer none, .int .i64 1]) ∧ w' = w := by
  rcases h1 with h1 | h1
  · go_enter Try.func16, Try.ntmps16
    go_wp2
    go_ret2
    exact ⟨rfl, rfl⟩
  · have h2 : ¬ c < 1 := by omega
    go_enter Try.func16, Try.ntmps16
    go_wp2
    go_ret2
    exact ⟨rfl, rfl⟩

set_option maxHeartbeats 1000000 in
theorem rresize_not (w : World) (b : Nat) (c : Int) (h1 : c < 1 ∨ 200 < c) :
    Calls Try.prog 18 #[.pointer (some ⟨b, 0, none⟩), .int .i64 c] w fun e w' => e = .returned (.int .i64 1) ∧ w' = w := by
  rcases h1 with h1 | h1
  · go_enter Try.func18, Try.ntmps18
    go_wp2
    go_ret
    exact ⟨rfl, rfl⟩
  · have h2 : ¬ c < 1 := by omega
    go_enter Try.func18, Try.ntmps18
    go_wp2
    go_ret
    exact ⟨rfl, rfl⟩

set_option maxHeartbeats 4000000 in
theorem rlist_any (w : World) (b : Nat) (l : List Bool) (F : Nat → Prop) (h : RStops w b l F) :
    Calls Try.prog 20 #[.pointer (some ⟨b, 0, none⟩)] w fun e w' =>
      ∃ v, e = .returned v ∧ Own w' 3 1 v (stopsOf l).length (intsV (stopsOf l)) ∧ Chg w w' nob ∧ ∀ k, blkOf v k → w.heap.size ≤ k := by
  obtain ⟨v, hb, ho, rfl, hl⟩ := h
  obtain ⟨ao, cap, rfl, hcap, hmax, hnone, hsome⟩ := ho.form
  have hc0 : w.cell? ⟨b, 0, none⟩ = some (.slice ao l.length cap) := by rw [hb.cell]; rfl
  have hcell : ∀ wr, Chg w wr nob → ∀ k, k < l.length → ∃ g, ao = some ⟨g, 0, none⟩ ∧ wr.cell? ⟨g, k, none⟩ = some (.bool (l.getD k false)) := by
    intro wr hch k hk
    cases ao with
    | none => have := (hnone rfl).1; omega
    | some a =>
      obtain ⟨g, rfl⟩ := hsome a rfl
      exact ⟨g, rfl, hch.cell (mapCell ho hk) id⟩
  have HC := Lib.hid hcell
  clear hnone hsome hcell
  go_enter Try.func20, Try.ntmps20
  go_wp2
  go_loopw [3, 4] (fun v i wr => ∃ k : Nat, k ≤ l.length ∧ i = .int .i64 k ∧ Own wr 3 1 v (stopsOf (l.take k)).length (intsV (stopsOf (l.take k))) ∧ Chg w wr nob ∧ ∀ x, blkOf v x → w.heap.size ≤ x)
    (fun _ i _ => l.length - (intOf i).toNat)
  case atStart => exact ⟨0, Nat.zero_le _, rfl, by simpa [stopsOf, stopsFrom, intsV] using World.ownsRow_nil w 0 3 1, Chg.refl _ _, fun x hx => by cases hx⟩
  case round =>
    obtain ⟨k, hk, rfl, hor, hch, hfo⟩ := hrel
    have hcw : wr.cell? ⟨b, 0, none⟩ = some (.slice ao l.length cap) := hch.cell hc0 id
    by_cases hkl : k < l.length
    · have hkn : (k : Int) < (l.length : Int) := by omega
      obtain ⟨g, rfl, hcx⟩ := HC.out wr hch k hkl
      have hle := stopsFrom_le (l.take k) 0
      have hle2 : (stopsOf (l.take k)).length ≤ 200 := by unfold stopsOf; simp at hle; omega
      have hst := stopsOf_take hkl
      cases hx : l.getD k false with
      | true =>
        rw [hx] at hcx hst
        have HS := Lib.hid hst
        clear hst hx hle
        go_wp2_with (at_builtin; refine wpList_push rfl (.tmp 21) (.tmp 23) 22 rfl 3 (.int .i64 0) 1 8 i_int u_ints rfl (by decide) _ _ _ rfl hor 1 1 rfl rfl rfl (by unfold maxLen; omega) (by omega) ?_)
        intro v' w1 hor1 hch1 hfo1
        go_wp2
        go_roundw
        case rel =>
          refine ⟨k + 1, by omega, by go_num, ?_, hch.trans hch1 (fun i hi h => by have := hfo i h; omega), fun x hx => ?_⟩
          · rw [HS.out]; simpa [intsV] using hor1
          · rcases hfo1 x hx with h | h
            · exact hfo x h
            · exact Nat.le_trans hch.size h
        case measure => (simp [intOf] <;> omega)
      | false =>
        rw [hx] at hcx hst
        have HS := Lib.hid hst
        clear hst hx hle
        go_wp2
        go_roundw
        case rel => exact ⟨k + 1, by omega, by go_num, by rw [HS.out]; simpa using hor, hch, hfo⟩
        case measure => (simp [intOf] <;> omega)
    · obtain rfl : k = l.length := by omega
      go_wp2
      go_ret
      rw [List.take_length] at hor
      exact ⟨_, rfl, hor, hch, hfo⟩

set_option maxHeartbeats 4000000 in
theorem rnext_any (w : World) (b : Nat) (l : List Bool) (F : Nat → Prop) (col n : Int) (h : RStops w b l F) (h1 : 1 ≤ l.length)
    (hc1 : -9223372036854775808 ≤ col) (hc2 : col ≤ 9223372036854775807) (hn1 : -9223372036854775808 ≤ n) (hn2 : n ≤ 9223372036854775807) :
    Calls Try.prog 21 #[.pointer (some ⟨b, 0, none⟩), .int .i64 col, .int .i64 n] w fun e w' =>
      e = .returned (.int .i64 (nextF l col n)) ∧ w' = w := by
  obtain ⟨v, hb, ho, rfl, hl⟩ := h
  obtain ⟨ao, cap, rfl, hcap, hmax, hnone, hsome⟩ := ho.form
  cases ao with
  | none => have := (hnone rfl).1; omega
  | some a =>
    obtain ⟨g, rfl⟩ := hsome a rfl
    have hc0 : w.cell? ⟨b, 0, none⟩ = some (.slice (some ⟨g, 0, none⟩) l.length cap) := by rw [hb.cell]; rfl
    have hcell : ∀ k, k < l.length → w.cell? ⟨g, k, none⟩ = some (.bool (l.getD k false)) := fun k hk => mapCell ho hk
    have HC := Lib.hid hcell
    clear hnone hsome hcell
    obtain ⟨last, hlast⟩ : ∃ m, l.length = m + 1 := ⟨l.length - 1, by omega⟩
    have hN : mxI n 1 = ((clampN n : Nat) : Int) := by unfold mxI clampN; split <;> omega
    have hC : mnI (mxI col 0) (last : Int) = ((clampC l col : Nat) : Int) := by unfold mxI mnI clampC; rw [hlast]; (repeat' split) <;> omega
    have hc3 : clampC l col ≤ last := by unfold clampC; omega
    have hn3 : (clampN n : Int) ≤ 9223372036854775807 ∧ 1 ≤ clampN n := by unfold clampN; omega
    have hres : nextF l col n = up l (last - clampC l col) (clampC l col) (clampN n) := by unfold nextF; rw [hlast]; rfl
    generalize clampC l col = c0 at *
    generalize clampN n = n0 at *
    generalize nextF l col n = r at *
    have HR := Lib.hid hres
    clear hres
    rw [hlast] at h1 hl hcap hc0
    have HL := Lib.hid hlast
    clear hlast ho hb
    go_enter Try.func21, Try.ntmps21
    go_wp2
    go_loop [2, 7] (fun n c => ∃ ci ni d : Nat, ci + d = last ∧ c = .int .i64 (ci + 1 : Nat) ∧ n = .int .i64 ni ∧ ((ni : Int) ≤ 9223372036854775807 ∧ 1 ≤ ni) ∧ Hid (r = up l d ci ni)) (fun _ c => last + 1 - (intOf c).toNat)
    case atStart => exact ⟨c0, n0, last - c0, by omega, by go_num, rfl, hn3, HR⟩
    case round =>
      obtain ⟨ci, ni, d, hcd, rfl, rfl, ⟨hni, hni1⟩, HU⟩ := hrel
      cases d with
      | zero =>
        obtain rfl : ci = last := by omega
        go_wp2
        go_ret
        exact ⟨by rw [HU.out]; go_num, rfl⟩
      | succ d =>
        have hlt : ci < last := by omega
        have hcx := HC.out (ci + 1) (by rw [HL.out]; omega)
        cases hx : l.getD (ci + 1) false with
        | true =>
          rw [hx] at hcx
          have HX := Lib.hid hx
          clear hx
          by_cases hn0 : ni = 1
          · subst hn0
            go_wp2
            go_ret
            exact ⟨by rw [HU.out]; simp only [up]; rw [if_neg (by decide), HX.out, if_pos rfl, Nat.sub_self, up_zero]; go_num, rfl⟩
          · have hn0' : ((ni : Int) - 1 == 0) = false := by simp; omega
            go_wp2
            go_round
            case rel => exact ⟨ci + 1, ni - 1, d, by omega, by go_num, by go_num, by omega, by unfold Hid; rw [HU.out]; simp only [up]; rw [if_neg (by omega), HX.out]; rfl⟩
            case measure => (simp [intOf] <;> omega)
        | false =>
          rw [hx] at hcx
          have HX := Lib.hid hx
          clear hx
          go_wp2
          go_round
          case rel => exact ⟨ci + 1, ni, d, by omega, by go_num, rfl, by omega, by unfold Hid; rw [HU.out]; simp only [up]; rw [if_neg (by omega), HX.out]; rfl⟩
          case measure => (simp [intOf] <;> omega)
set_option maxHeartbeats 4000000 in
theorem rprev_any (w : World) (b : Nat) (l : List Bool) (F : Nat → Prop) (col n : Int) (h : RStops w b l F) (h1 : 1 ≤ l.length)
    (hc1 : -9223372036854775808 ≤ col) (hc2 : col ≤ 9223372036854775807) (hn1 : -9223372036854775808 ≤ n) (hn2 : n ≤ 9223372036854775807) :
    Calls Try.prog 22 #[.pointer (some ⟨b, 0, none⟩), .int .i64 col, .int .i64 n] w fun e w' =>
      e = .returned (.int .i64 (prevF l col n)) ∧ w' = w := by
  obtain ⟨v, hb, ho, rfl, hl⟩ := h
  obtain ⟨ao, cap, rfl, hcap, hmax, hnone, hsome⟩ := ho.form
  cases ao with
  | none => have := (hnone rfl).1; omega
  | some a =>
    obtain ⟨g, rfl⟩ := hsome a rfl
    have hc0 : w.cell? ⟨b, 0, none⟩ = some (.slice (some ⟨g, 0, none⟩) l.length cap) := by rw [hb.cell]; rfl
    have hcell : ∀ k, k < l.length → w.cell? ⟨g, k, none⟩ = some (.bool (l.getD k false)) := fun k hk => mapCell ho hk
    have HC := Lib.hid hcell
    clear hnone hsome hcell
    obtain ⟨last, hlast⟩ : ∃ m, l.length = m + 1 := ⟨l.length - 1, by omega⟩
    have hN : mxI n 1 = ((clampN n : Nat) : Int) := by unfold mxI clampN; split <;> omega
    have hC : mnI (mxI col 0) (last : Int) = ((clampC l col : Nat) : Int) := by unfold mxI mnI clampC; rw [hlast]; (repeat' split) <;> omega
    have hc3 : clampC l col ≤ last := by unfold clampC; omega
    have hn3 : (clampN n : Int) ≤ 9223372036854775807 ∧ 1 ≤ clampN n := by unfold clampN; omega
    have hres : prevF l col n = dn l (clampC l col) (clampN n) := rfl
    generalize clampC l col = c0 at *
    generalize clampN n = n0 at *
    generalize prevF l col n = r at *
    have HR := Lib.hid hres
    clear hres
    rw [hlast] at h1 hl hcap hc0
    have HL := Lib.hid hlast
    clear hlast ho hb
    go_enter Try.func22, Try.ntmps22
    go_wp2
    go_loop [2, 7] (fun n c => ∃ ci ni : Nat, ci ≤ last ∧ c = .int .i64 ((ci : Int) - 1) ∧ n = .int .i64 ni ∧ ((ni : Int) ≤ 9223372036854775807 ∧ 1 ≤ ni) ∧ Hid (r = dn l ci ni)) (fun _ c => (intOf c + 1).toNat)
    case atStart => exact ⟨c0, n0, hc3, by go_num, rfl, hn3, HR⟩
    case round =>
      obtain ⟨ci, ni, hcd, rfl, rfl, ⟨hni, hni1⟩, HU⟩ := hrel
      cases ci with
      | zero =>
        go_wp2
        go_ret
        exact ⟨by rw [HU.out]; rfl, rfl⟩
      | succ d =>
        have hcx := HC.out d (by rw [HL.out]; omega)
        have hd1 : ((d + 1 : Nat) : Int) - 1 = (d : Int) := by omega
        rw [hd1]
        clear hd1
        cases hx : l.getD d false with
        | true =>
          rw [hx] at hcx
          have HX := Lib.hid hx
          clear hx
          by_cases hn0 : ni = 1
          · subst hn0
            go_wp2
            go_ret
            exact ⟨by rw [HU.out]; simp only [dn]; rw [if_neg (by decide), HX.out, if_pos rfl, Nat.sub_self, dn_zero]; rfl, rfl⟩
          · have hn0' : ((ni : Int) - 1 == 0) = false := by simp; omega
            go_wp2
            go_round
            case rel => exact ⟨d, ni - 1, by omega, by go_num, by go_num, by omega, by unfold Hid; rw [HU.out]; simp only [dn]; rw [if_neg (by omega), HX.out]; rfl⟩
            case measure => (simp [intOf] <;> omega)
        | false =>
          rw [hx] at hcx
          have HX := Lib.hid hx
          clear hx
          go_wp2
          go_round
          case rel => exact ⟨d, ni, by omega, by go_num, rfl, by omega, by unfold Hid; rw [HU.out]; simp only [dn]; rw [if_neg (by omega), HX.out]; rfl⟩
          case measure => (simp [intOf] <;> omega)

theorem Own.empty (w : World) (e : TypeId) (size : Nat) : Own (w.alloc (.cells #[] e)) e size (.slice (some ⟨w.heap.size, 0, none⟩) 0 0) 0 [] :=
  ⟨by simp, .inr ⟨w.heap.size, 0, #[], rfl, Nat.zero_le _, heap_alloc_new w _, Nat.le_refl _, by decide, by simp, by simp⟩⟩
set_option maxHeartbeats 4000000 in
theorem rresize_any (w : World) (b : Nat) (l : List Bool) (F : Nat → Prop) (c : Int) (h : RStops w b l F) (h1 : 1 ≤ c) (h2 : c ≤ 200) :
    Calls Try.prog 18 #[.pointer (some ⟨b, 0, none⟩), .int .i64 c] w fun e w' =>
      e = .returned (.int .i64 0) ∧ Upd (fun w F => RStops w b (resized l c.toNat) F) F w w' := by
  obtain ⟨v, hb, ho, rfl, hl⟩ := h
  obtain ⟨ao, cap, rfl, hcap, hmax, hnone, hsome⟩ := ho.form
  obtain ⟨k, rfl⟩ := Int.eq_ofNat_of_zero_le (show 0 ≤ c by omega)
  have hc0 : w.cell? ⟨b, 0, none⟩ = some (.slice ao l.length cap) := by rw [hb.cell]; rfl
  have hf0 : w.frozen? ⟨b, 0, none⟩ = false := hb.free 0
  have hne := ho.ne hb (by decide)
  rw [Int.toNat_natCast]
  obtain ⟨q, hq⟩ : ∃ q, min k l.length = q := ⟨_, rfl⟩
  have hmn : mnI (k : Int) (l.length : Int) = (q : Int) := by unfold mnI; split <;> omega
  have hqc : q ≤ cap := by omega
  go_enter Try.func18, Try.ntmps18
  go_wp2
  refine wp_one [5, 10] [1, 14, 17] [(1, [5, 10])] [0, 2, 3, 4, 5, 6, 7, 8, 9, 10, 11, 12, 13, 1, 14, 15, 16, 17] rfl (by kernel_rfl) (fun _ _ _ _ _ h => h) ?_; simp only [List.map_cons, List.map_nil, List.getElem?_toArray, List.getElem?_cons_zero, List.getElem?_cons_succ]
  (repeat (first | (apply can0; (· rfl); (· rfl); (· (intro w'; first | (go_simp; with_reducible rfl) | (go_simp; done))); simp only [Act.put, List.setIfInBounds_toArray, List.set_cons_zero, List.set_cons_succ]) | (apply can1; (· rfl); (· rfl); (· (first | (go_simp; with_reducible rfl) | (go_simp; done))); simp only [Act.put, List.setIfInBounds_toArray, List.set_cons_zero, List.set_cons_succ]) | (apply canN; (· rfl); (· rfl); simp only [Act.put, List.setIfInBounds_toArray, List.set_cons_zero, List.set_cons_succ]) | (apply canN1; (· rfl); (· rfl); simp only [Act.put, List.setIfInBounds_toArray, List.set_cons_zero, List.set_cons_succ]) | (apply can0; (· rfl); (· (go_simp; done)); (· (intro w'; first | (go_simp; with_reducible rfl) | (go_simp; done))); simp only [Act.put, List.setIfInBounds_toArray, List.set_cons_zero, List.set_cons_succ]) | (apply can1; (· rfl); (· (go_simp; done)); (· (first | (go_simp; with_reducible rfl) | (go_simp; done))); simp only [Act.put, List.setIfInBounds_toArray, List.set_cons_zero, List.set_cons_succ]) | (apply canN; (· rfl); (· (go_simp; done)); simp only [Act.put, List.setIfInBounds_toArray, List.set_cons_zero, List.set_cons_succ]) | (apply canN1; (· rfl); (· (go_simp; done)); simp only [Act.put, List.setIfInBounds_toArray, List.set_cons_zero, List.set_cons_succ])))
  refine canW rfl [5, 10] rfl (fun K hK => ?_)
  go_simp
  have hca : (w.alloc (.cells #[] 4)).cell? ⟨b, 0, none⟩ = some (.slice ao l.length cap) := ((Chg.refl w nob).alloc _).cell hc0 id
  (refine hK _ _ (fun u hu => by simp only [List.mem_cons, List.not_mem_nil, or_false] at hu; (first | (subst hu; exact reRun_mk rfl (by first | (go_simp; with_reducible rfl) | (go_simp; done)) (holds_at rfl)) | (rcases hu with rfl | rfl <;> exact reRun_mk rfl (by first | (go_simp; with_reducible rfl) | (go_simp; done)) (holds_at rfl)) | (rcases hu with rfl | rfl | rfl <;> exact reRun_mk rfl (by first | (go_simp; with_reducible rfl) | (go_simp; done)) (holds_at rfl)))) ?_; clear hK K; try simp only [Act.put, List.setIfInBounds_toArray, List.set_cons_zero, List.set_cons_succ])
  clear hca
  (repeat (first | (apply can0; (· rfl); (· rfl); (· (intro w'; first | (go_simp; with_reducible rfl) | (go_simp; done))); simp only [Act.put, List.setIfInBounds_toArray, List.set_cons_zero, List.set_cons_succ]) | (apply can1; (· rfl); (· rfl); (· (first | (go_simp; with_reducible rfl) | (go_simp; done))); simp only [Act.put, List.setIfInBounds_toArray, List.set_cons_zero, List.set_cons_succ]) | (apply canN; (· rfl); (· rfl); simp only [Act.put, List.setIfInBounds_toArray, List.set_cons_zero, List.set_cons_succ]) | (apply canN1; (· rfl); (· rfl); simp only [Act.put, List.setIfInBounds_toArray, List.set_cons_zero, List.set_cons_succ]) | (apply can0; (· rfl); (· (go_simp; done)); (· (intro w'; first | (go_simp; with_reducible rfl) | (go_simp; done))); simp only [Act.put, List.setIfInBounds_toArray, List.set_cons_zero, List.set_cons_succ]) | (apply can1; (· rfl); (· (go_simp; done)); (· (first | (go_simp; with_reducible rfl) | (go_simp; done))); simp only [Act.put, List.setIfInBounds_toArray, List.set_cons_zero, List.set_cons_succ]) | (apply canN; (· rfl); (· (go_simp; done)); simp only [Act.put, List.setIfInBounds_toArray, List.set_cons_zero, List.set_cons_succ]) | (apply canN1; (· rfl); (· (go_simp; done)); simp only [Act.put, List.setIfInBounds_toArray, List.set_cons_zero, List.set_cons_succ])))
  refine canW rfl [] rfl (fun K hK => ?_)
  rw [alloc_drew]
  have hoq : Own w 4 1 (.slice ao q cap) q ((l.take q).map Value.bool) := by rw [List.map_take]; exact ho.cut (by omega)
  have hrq : Rd (w.drew.alloc (.cells #[] 4)) 1 (.slice ao q cap) q ((l.take q).map Value.bool) := (show Own w.drew 4 1 _ q _ from hoq.drew).rd.alloc _
  refine step_app rfl (.tmp 12) (.tmp 24) 42 rfl 4 (.bool false) 1 1 i_bool u_bools rfl (by decide) (.slice (some ⟨w.heap.size, 0, none⟩) 0 0) 0 [] rfl (Own.empty w.drew 4 1) ao q cap ((l.take q).map Value.bool) rfl (fun h => ⟨by have := (hnone h).1; omega, (hnone h).2⟩) (by simp; omega)
    (fun a ha j u hu => by obtain ⟨g, rfl⟩ := hsome a ha; obtain ⟨b', o', h1, h2⟩ := hrq.cell hu; rw [ha] at h1; cases h1; rcases j with _ | j <;> simpa [Addr.add] using h2) (fun u hu => by obtain ⟨x, _, rfl⟩ := List.mem_map.1 hu; rfl) (by unfold maxLen; omega) (by omega) ?_
  intro v' w1 hor1 (hch1 : Chg (w.drew.alloc (.cells #[] 4)) w1 (blkOf (.slice (some ⟨w.heap.size, 0, none⟩) 0 0))) (hfo1 : ∀ k, blkOf v' k → blkOf (.slice (some ⟨w.heap.size, 0, none⟩) 0 0) k ∨ (w.drew.alloc (.cells #[] 4)).heap.size ≤ k)
  have hch2 : Chg w w1 nob := ((Chg.refl w nob).drew.alloc _).trans hch1 (fun i hi h => by cases h; exact absurd hi (Nat.lt_irrefl _))
  have hfo2 : ∀ k, blkOf v' k → w.heap.size ≤ k := fun k hk => by
    rcases hfo1 k hk with h | h
    · cases h; exact Nat.le_refl _
    · simp at h; omega
  have hb1 := hb.kept hch2 id
  have hc1 : w1.cell? ⟨b, 0, none⟩ = some (.slice ao l.length cap) := by rw [hb1.cell]; rfl
  have hf1 : w1.frozen? ⟨b, 0, none⟩ = false := hb1.free 0
  rw [List.nil_append, Nat.zero_add] at hor1
  have hne1 := hor1.ne hb1 (by decide)
  obtain ⟨av, cv, rfl, _⟩ := hor1.form
  have hs : RStops (w1.setCell ⟨b, 0, none⟩ (.slice av q cv)) b (l.take q) (fun k => k = b ∨ blkOf (.slice av q cv) k) := ⟨_, hb1.set 0 _, by
    rw [List.length_take, Nat.min_eq_left (by omega)]
    exact Own.setOther hor1 (p := ⟨b, 0, none⟩) hne1 _, rfl, by simp; omega⟩
  have hs2 := hs
  have HS := Lib.hid hs
  clear hnone hsome hs hs2 hoq hrq hor1 hch1 hfo1
  (refine hK _ _ (fun u hu => by cases hu) ?_; clear hK K; try simp only [Act.put, List.setIfInBounds_toArray, List.set_cons_zero, List.set_cons_succ])
  (repeat (first | (apply can0; (· rfl); (· rfl); (· (intro w'; first | (go_simp; with_reducible rfl) | (go_simp; done))); simp only [Act.put, List.setIfInBounds_toArray, List.set_cons_zero, List.set_cons_succ]) | (apply can1; (· rfl); (· rfl); (· (first | (go_simp; with_reducible rfl) | (go_simp; done))); simp only [Act.put, List.setIfInBounds_toArray, List.set_cons_zero, List.set_cons_succ]) | (apply canN; (· rfl); (· rfl); simp only [Act.put, List.setIfInBounds_toArray, List.set_cons_zero, List.set_cons_succ]) | (apply canN1; (· rfl); (· rfl); simp only [Act.put, List.setIfInBounds_toArray, List.set_cons_zero, List.set_cons_succ]) | (apply can0; (· rfl); (· (go_simp; done)); (· (intro w'; first | (go_simp; with_reducible rfl) | (go_simp; done))); simp only [Act.put, List.setIfInBounds_toArray, List.set_cons_zero, List.set_cons_succ]) | (apply can1; (· rfl); (· (go_simp; done)); (· (first | (go_simp; with_reducible rfl) | (go_simp; done))); simp only [Act.put, List.setIfInBounds_toArray, List.set_cons_zero, List.set_cons_succ]) | (apply canN; (· rfl); (· (go_simp; done)); simp only [Act.put, List.setIfInBounds_toArray, List.set_cons_zero, List.set_cons_succ]) | (apply canN1; (· rfl); (· (go_simp; done)); simp only [Act.put, List.setIfInBounds_toArray, List.set_cons_zero, List.set_cons_succ])))
  refine canW rfl [] rfl (fun K hK => ?_)
  go_simp
  (refine hK _ _ (fun u hu => by cases hu) ?_; clear hK K; try simp only [Act.put, List.setIfInBounds_toArray, List.set_cons_zero, List.set_cons_succ])
  refine canE ?_
  go_wp2_with fail
  go_at_call 25
  refine (grow_any _ b _ _ k HS.out (by omega) (by simp; omega)).mono ?_
  rintro e w2 ⟨rfl, hu⟩
  go_wp2
  go_ret
  obtain ⟨hc, F', hs, hF⟩ := hu
  have hr : l.take q ++ fresh (l.take q).length k = resized l k := by
    unfold resized
    rcases Nat.lt_or_ge k l.length with hk | hk
    · rw [show q = k by omega, List.length_take, Nat.min_eq_left (by omega)]; unfold fresh; rw [Nat.sub_self, show k - l.length = 0 by omega]; simp
    · rw [show q = l.length by omega, List.take_length, List.take_of_length_le hk]
  rw [hr] at hs
  refine ⟨rfl, ((hch2.mono (fun _ _ h => h.elim)).setCell (.inl (.inl rfl)) _).trans hc (fun i hi h => ?_), F', hs, fun x hx => ?_⟩
  · rcases h with h | h
    · exact .inl h
    · have := hfo2 i h; omega
  · rcases hF x hx with (h | h) | h
    · exact .inl (.inl h)
    · exact .inr (hfo2 x h)
    · simp at h
      exact .inr (Nat.le_trans hch2.size h)
end Go.Proofs.Ytadpjgjkicmhiaa
