/-
  Titles: a string's signs and back.
  Screens: may a screen be.
  slices.Repeat of one cell; a blank screen.
-/
import Derived.Test.YtmbdpcamhkdkmaaGreatDoorMg5
import Derived.Laws.IdiomStrings
import Derived.Laws.Cover4
import Derived.Test.YtmbdpcamhkdkmaaGreatDoorMg2
import Derived.Lib.EndianBits
namespace Go.Proofs.YtmbdpcamhkdkmaaGreatDoor
open Go.RowKit
set_option linter.unusedVariables false
set_option linter.unusedSimpArgs false

abbrev runesV (l : List Int) : List Value := l.map (Value.int .i32)
/-- The signs of a string, as '[]rune(s)' tells them. -/
def signsF (s : ByteArray) : Nat → Nat → List Int
  | 0, _ => []
  | b + 1, i => if i < s.size then ((Utf8.decode s i).1 : Int) :: signsF s b (i + (Utf8.decode s i).2) else []
def signsS (s : ByteArray) : List Int := signsF s s.size 0
theorem signs_run (s : ByteArray) : ∀ (b i : Nat) (acc : Array Value), Conv.runesFrom s b i acc = acc ++ (runesV (signsF s b i)).toArray
  | 0, i, acc => by simp [Conv.runesFrom, signsF]
  | b + 1, i, acc => by
    unfold Conv.runesFrom signsF
    split
    · simp only [signs_run s b]
      simp
    · simp
theorem signsS_run (s : ByteArray) : Conv.runesFrom s s.size 0 #[] = (runesV (signsS s)).toArray := by rw [signs_run]; simp [signsS]
theorem signsS_len (s : ByteArray) : (signsS s).length ≤ s.size := by
  have := size_runesFrom s s.size 0 #[]
  rw [signsS_run] at this
  simpa using this
theorem u_string : Tryz.prog.underlying 9 = some .string := by kernel_rfl
theorem u_runes : Tryz.prog.underlying 72 = some (.slice 21) := by kernel_rfl
theorem u_int32 : Tryz.prog.underlying 21 = some (.int .i32) := by kernel_rfl
/-- '[]rune(s)': a row of its own. -/
theorem to_signs (w : World) (s : ByteArray) (hs : s.size ≤ 1000000) : ∃ v w', (convert 9 72 (.string s)).run Tryz.prog w = .ok v w' ∧ Own w' 21 1 v (signsS s).length (runesV (signsS s)) ∧ Chg w w' nob := by
  have hl := signsS_len s
  have h := run_runes_of_string (P := Tryz.prog) w 9 72 21 s u_string u_runes u_int32 (by rw [signsS_run]; simp; omega)
  rw [signsS_run] at h
  have hge := grownCap_ge w (signsS s).length 0 21
  simp only [List.size_toArray, List.length_map] at h
  refine ⟨_, _, h, ?_, ((Chg.refl w nob).drew).alloc _⟩
  have hmx := grownCap_le_maxLen w (signsS s).length 0 21 (by unfold maxLen; omega)
  refine ⟨by simp, .inr ⟨w.heap.size, _, _, rfl, Nat.zero_le _, heap_alloc_new w.drew _, hge, hmx, ?_, ?_⟩⟩
  · simp; omega
  · simp
theorem rd_signs {w : World} {vt : Value} {t : List Int} (h : Own w 21 1 vt t.length (runesV t)) : (convert 72 9 vt).run Tryz.prog w = .ok (.string (runesBytes t)) w := by
  obtain ⟨ao, cap, rfl, hcap, hmax, hnone, hsome⟩ := h.form
  cases ao with
  | none =>
    have := List.length_eq_zero_iff.1 (hnone rfl).1
    subst this
    exact run_convert_runes_nil w _ _ _ _ _ u_runes u_int32 u_string
  | some a =>
    obtain ⟨g, rfl⟩ := hsome a rfl
    have hh := run_convert_runes (P := Tryz.prog) w 72 9 21 ⟨g, 0, none⟩ t.length cap t (Nat.le_refl _) u_runes u_int32 u_string (fun j hj => by
      rw [Addr.add_lit, Nat.zero_add, h.cellAt j (by omega)]
      simp [runesV, List.getD, hj])
    rw [List.take_length] at hh
    exact hh
def badF (r : Int) : Bool := decide (r < 32) || (decide (127 ≤ r) && decide (r ≤ 159))
set_option maxRecDepth 100000 in
set_option maxHeartbeats 4000000 in
theorem bad_any (w : World) (r : Int) : Calls Tryz.prog 65 #[.int .i32 r] w fun e w' => e = .returned (.bool (badF r)) ∧ w' = w := by
  rcases (show r < 32 ∨ (32 ≤ r ∧ r < 127) ∨ (127 ≤ r ∧ r ≤ 159) ∨ 159 < r by omega) with h | ⟨h, h'⟩ | ⟨h, h'⟩ | h
  all_goals
    go_enter Tryz.func65, Tryz.ntmps65
    go_wp2
    go_ret
    exact ⟨by (show Ending.returned (Value.bool _) = _); congr 2; rw [Bool.eq_iff_iff]; simp [badF]; try omega, rfl⟩
def findF (p : Int → Bool) : List Int → Nat → Int
  | [], _ => -1
  | a :: t, k => if p a then (k : Int) else findF p t (k + 1)
theorem findF_ge (p : Int → Bool) : ∀ (l : List Int) (k : Nat), 0 ≤ findF p l k ↔ l.any p = true
  | [], _ => by simp [findF]
  | a :: t, k => by
    unfold findF
    have := findF_ge p t (k + 1)
    by_cases h : p a = true
    · simp [h]
    · simpa [h] using this
set_option maxRecDepth 100000 in
set_option maxHeartbeats 4000000 in
theorem index_any (w : World) (va : Value) (l : List Int) (ha : Rd w 1 va l.length (runesV l)) (hl : l.length ≤ 1000000) :
    Calls Tryz.prog 89 #[va, .func (.func 65) #[] #[]] w fun e w' => e = .returned (.int .i64 (findF badF l 0)) ∧ w' = w := by
  obtain ⟨a1, c1, rfl, hn1, _⟩ := ha.form
  have HC := Lib.hid ha
  clear ha
  go_enter Tryz.func89, Tryz.ntmps89
  go_wp2
  go_loopw [8] (fun iv wr => ∃ k : Nat, k ≤ l.length ∧ iv = .int .i64 k ∧ wr = w ∧ Hid (findF badF l 0 = findF badF (l.drop k) k)) (fun iv _ => l.length - (intOf iv).toNat)
  case atStart => exact ⟨0, Nat.zero_le _, rfl, rfl, Lib.hid rfl⟩
  case round =>
    obtain ⟨k, hk, rfl, rfl, HA⟩ := hrel
    by_cases hkl : k < l.length
    · have hkn : (k : Int) < (l.length : Int) := by omega
      obtain ⟨g, o, rfl, hc⟩ := HC.out.cell (j := k) (u := .int .i32 (l[k])) (by simp [runesV, hkl])
      have hd : findF badF (l.drop k) k = if badF l[k] then (k : Int) else findF badF (l.drop (k + 1)) (k + 1) := by
        rw [List.drop_eq_getElem_cons hkl, findF]
      rw [hd] at HA
      clear hd
      obtain ⟨r, hr⟩ : ∃ r, l[k] = r := ⟨_, rfl⟩
      rw [hr] at HA hc
      obtain ⟨b, hb⟩ : ∃ b, badF r = b := ⟨_, rfl⟩
      rw [hb] at HA
      have HBB := Lib.hid hb
      clear hr hb
      go_wp2_with fail
      go_at_call 65
      refine (bad_any wr r).mono ?_
      rw [HBB.out]
      rintro e w1 ⟨rfl, rfl⟩
      cases b
      · go_wp2
        go_roundw
        case rel => exact ⟨k + 1, by omega, by go_num, by trivial, HA⟩
        case measure => simp [intOf]; omega
      · go_wp2
        go_ret
        exact ⟨by rw [HA.out]; rfl, rfl⟩
    · obtain rfl : k = l.length := by omega
      rw [List.drop_length] at HA
      go_wp2
      go_ret
      exact ⟨by rw [HA.out]; rfl, rfl⟩
set_option maxRecDepth 100000 in
set_option maxHeartbeats 4000000 in
theorem contains_any (w : World) (va : Value) (l : List Int) (ha : Rd w 1 va l.length (runesV l)) (hl : l.length ≤ 1000000) :
    Calls Tryz.prog 64 #[va, .func (.func 65) #[] #[]] w fun e w' => e = .returned (.bool (l.any badF)) ∧ w' = w := by
  have HC := Lib.hid ha
  obtain ⟨x, hx⟩ : ∃ x, findF badF l 0 = x := ⟨_, rfl⟩
  obtain ⟨b, hb⟩ : ∃ b, l.any badF = b := ⟨_, rfl⟩
  have hbx : Hid (decide (0 ≤ x) = b) := Lib.hid (by rw [← hx, ← hb, Bool.eq_iff_iff]; simpa using findF_ge badF l 0)
  have HX := Lib.hid hx
  rw [hb]
  clear ha hx hb
  go_enter Tryz.func64, Tryz.ntmps64
  go_wp2_with fail
  go_at_call 89
  refine (index_any w va l HC.out hl).mono ?_
  rw [HX.out]
  rintro e w1 ⟨rfl, rfl⟩
  go_wp2
  go_ret
  exact ⟨by rw [← hbx.out]; rfl, rfl⟩
def titleF (s : ByteArray) : Bool := decide (runesBytes (signsS s) = s) && decide ((signsS s).length ≤ 64) && !(signsS s).any badF
set_option maxRecDepth 100000 in
set_option maxHeartbeats 4000000 in
theorem title_any (w : World) (s : ByteArray) (hs : s.size ≤ 1000000) : Calls Tryz.prog 40 #[.string s] w fun e w' => e = .returned (.bool (titleF s)) ∧ Chg w w' nob := by
  obtain ⟨v, w1, hr, ho, hc⟩ := to_signs w s hs
  have hll := signsS_len s
  have hb := rd_signs ho
  have HO := Lib.hid ho
  have H1 := Lib.hid hc
  obtain ⟨b, hbd⟩ : ∃ b, (signsS s).any badF = b := ⟨_, rfl⟩
  have HBD := Lib.hid hbd
  obtain ⟨q, hq⟩ : ∃ q, decide (runesBytes (signsS s) = s) = q := ⟨_, rfl⟩
  have hq' : Hid (((runesBytes (signsS s)).toList == s.toList) = q) := Lib.hid (by
    rw [← hq, Bool.eq_iff_iff]
    simp only [beq_iff_eq, decide_eq_true_eq]
    exact ⟨fun h => toList_inj h, fun h => by rw [h]⟩)
  obtain ⟨d, hd⟩ : ∃ d, decide ((signsS s).length ≤ 64) = d := ⟨_, rfl⟩
  have ht : titleF s = (q && d && !b) := by rw [titleF, hq, hbd, hd]
  have HD := Lib.hid hd
  rw [ht]
  clear ht hbd hq hd
  obtain ⟨av, cv, rfl, hcv, _⟩ := ho.form
  clear ho hc
  generalize runesBytes (signsS s) = rb at *
  go_enter Tryz.func40, Tryz.ntmps40
  go_wp2_with fail
  go_at_call 64
  refine (contains_any w1 _ (signsS s) HO.out.rd (by omega)).mono ?_
  rw [HBD.out]
  rintro e w2 ⟨rfl, rfl⟩
  have hl : Hid (d = true ↔ ((signsS s).length : Int) ≤ 64) := Lib.hid (by rw [← HD.out]; simp; omega)
  cases d
  · have hl' : ¬ ((signsS s).length : Int) ≤ 64 := fun h => by simpa using hl.out.2 h
    cases q
    · have hqf : (rb.toList == s.toList) = false := hq'.out
      go_wp2
      go_ret
      exact ⟨rfl, H1.out⟩
    · have hqf : (rb.toList == s.toList) = true := hq'.out
      go_wp2
      go_ret
      exact ⟨rfl, H1.out⟩
  · have hl' : ((signsS s).length : Int) ≤ 64 := hl.out.1 rfl
    cases q
    · have hqf : (rb.toList == s.toList) = false := hq'.out
      go_wp2
      go_ret
      exact ⟨rfl, H1.out⟩
    · have hqf : (rb.toList == s.toList) = true := hq'.out
      go_wp2
      go_ret
      exact ⟨rfl, H1.out⟩
end Go.Proofs.YtmbdpcamhkdkmaaGreatDoor

namespace Go.Proofs.YtmbdpcamhkdkmaaGreatDoor
open Go.RowKit
set_option linter.unusedVariables false
set_option linter.unusedSimpArgs false

abbrev scV (r c : Int) (v : Value) (y x : Int) (h : Bool) (t : ByteArray) : Value := .agg #[.int .i64 r, .int .i64 c, v, .int .i64 y, .int .i64 x, .bool h, .string t]
abbrev scA (r c : Int) (v : Value) (y x : Int) (h : Bool) (t : ByteArray) : Array Value := #[.int .i64 r, .int .i64 c, v, .int .i64 y, .int .i64 x, .bool h, .string t]
def mayS (r c : Int) (l : List Ce) (y x : Int) (t : ByteArray) : Bool := mendF r c l && decide (0 ≤ y ∧ y < r ∧ 0 ≤ x ∧ x < c) && titleF t
set_option maxRecDepth 100000 in
set_option maxHeartbeats 8000000 in
theorem mayscr_any (w : World) (r c y x : Int) (h : Bool) (t : ByteArray) (va : Value) (l : List Ce) (ha : Rd w 5 va l.length (cellsV l)) (hl : l.length ≤ 1000000) (hs : t.size ≤ 1000000) (ht : Tab w) :
    Calls Tryz.prog 14 #[scV r c va y x h t] w fun e w' => e = .returned (.bool (mayS r c l y x t)) ∧ Chg w w' nob := by
  obtain ⟨a1, c1, rfl, hn1, _⟩ := ha.form
  have HC := Lib.hid ha
  have HT := Lib.hid ht
  obtain ⟨m, hm⟩ : ∃ m, mendF r c l = m := ⟨_, rfl⟩
  obtain ⟨k, hk⟩ : ∃ k, titleF t = k := ⟨_, rfl⟩
  obtain ⟨d, hd⟩ : ∃ d, decide (0 ≤ y ∧ y < r ∧ 0 ≤ x ∧ x < c) = d := ⟨_, rfl⟩
  have hms : mayS r c l y x t = (m && d && k) := by rw [mayS, hm, hk, hd]
  rw [hms]
  have HM := Lib.hid hm
  have HK := Lib.hid hk
  have HD := Lib.hid hd
  clear ha ht hm hk hd hms
  go_enter Tryz.func14, Tryz.ntmps14
  go_wp2_with fail
  go_at_call 39
  refine (mended_any _ r c _ l (HC.out.alloc _) hl (HT.out.kept ((Chg.refl w nob).alloc _))).mono ?_
  rw [HM.out]
  rintro e w1 ⟨rfl, hc1⟩
  have hb := (Blk.new w 24 _).kept hc1 id
  have H1 : Hid (Chg w w1 nob) := Lib.hid (((Chg.refl w nob).alloc _).trans hc1 (fun _ _ h => h))
  clear hc1
  have u0 := hb.cell 0
  have u1 := hb.cell 1
  have u2 := hb.cell 2
  have u3 := hb.cell 3
  have u4 := hb.cell 4
  have u5 := hb.cell 5
  have u6 := hb.cell 6
  simp only [List.getElem?_toArray, List.getElem?_cons_zero, List.getElem?_cons_succ] at u0 u1 u2 u3 u4 u5 u6
  clear hb
  cases m
  · go_wp2
    go_ret
    exact ⟨rfl, H1.out⟩
  · rcases (show y < 0 ∨ (0 ≤ y ∧ r ≤ y) ∨ (0 ≤ y ∧ y < r ∧ x < 0) ∨ (0 ≤ y ∧ y < r ∧ 0 ≤ x ∧ c ≤ x) ∨ (0 ≤ y ∧ y < r ∧ 0 ≤ x ∧ x < c) by omega) with h1 | ⟨h1, h2⟩ | ⟨h1, h2, h3⟩ | ⟨h1, h2, h3, h4⟩ | ⟨h1, h2, h3, h4⟩
    · obtain rfl : d = false := by rw [← HD.out]; simp; omega
      go_wp2
      go_ret
      exact ⟨rfl, H1.out⟩
    · obtain rfl : d = false := by rw [← HD.out]; simp; omega
      go_wp2
      go_ret
      exact ⟨rfl, H1.out⟩
    · obtain rfl : d = false := by rw [← HD.out]; simp; omega
      go_wp2
      go_ret
      exact ⟨rfl, H1.out⟩
    · obtain rfl : d = false := by rw [← HD.out]; simp; omega
      have h5 : ¬ x < c := by omega
      go_wp2
      go_ret
      exact ⟨rfl, H1.out⟩
    · obtain rfl : d = true := by rw [← HD.out]; simp; omega
      go_wp2_with fail
      go_at_call 40
      refine (title_any w1 t hs).mono ?_
      rw [HK.out]
      rintro e w2 ⟨rfl, hc2⟩
      have H2 : Hid (Chg w w2 nob) := Lib.hid (H1.out.trans hc2 (fun _ _ h => h))
      clear hc2
      cases k
      all_goals
        go_wp2
        go_ret
        exact ⟨rfl, H2.out⟩
end Go.Proofs.YtmbdpcamhkdkmaaGreatDoor

namespace Go.Proofs.YtmbdpcamhkdkmaaGreatDoor
open Go.RowKit
set_option linter.unusedVariables false
set_option linter.unusedSimpArgs false

theorem i_cell : (Tryz.prog.info? 47).map (fun i => (i.zero, i.size, i.bytes)) = some (some (.agg #[.int .i32 0, .int .i64 0, .int .i64 0, .int .i64 0, .int .i64 0]), 5, 40) := by kernel_rfl
theorem cellsV_one (l : List Ce) : ∀ u ∈ cellsV l, u.oneCell' = true := fun u hu => by
  obtain ⟨c, _, h⟩ := List.mem_flatMap.1 hu
  simp only [Ce.cs, List.mem_cons, List.not_mem_nil, or_false] at h
  rcases h with rfl | rfl | rfl | rfl | rfl <;> rfl
theorem cellsV_app (a b : List Ce) : cellsV (a ++ b) = cellsV a ++ cellsV b := by simp [cellsV]
theorem u_cells' : Tryz.prog.underlying 22 = some (.slice 47) := by kernel_rfl
theorem make_cells (w : World) (m : Nat) (h : m ≤ 100000) : ∃ wm Z, (Instr.makeSlice 22 (.int .i64 m) (.int .i64 m)).run Tryz.prog w = .ok (.slice (some ⟨w.heap.size, 0, none⟩) m m) wm ∧ Blk wm w.heap.size 47 Z ∧ Z.size = m * 5 ∧ Chg w wm nob := by
  obtain ⟨i, hi, hz, hsize, hby⟩ := info_parts i_cell
  have hr := run_make (P := Tryz.prog) w 22 47 i _ u_cells' hi hz .i64 .i64 m m (by omega) (Int.le_refl _) (by rw [hby]; omega) (by omega)
  simp only [Int.toNat_natCast] at hr
  exact ⟨_, _, hr, Blk.new w _ _, by rw [size_madeCells, hsize], (Chg.refl w nob).alloc _⟩
theorem rep_len (k : Nat) (c : Ce) : (cellsV (List.replicate k c)).length = k * 5 := by rw [cellsV_len, List.length_replicate]
theorem rep_add (a b : Nat) (c : Ce) : cellsV (List.replicate (a + b) c) = cellsV (List.replicate a c) ++ cellsV (List.replicate b c) := by rw [← List.replicate_append_replicate, cellsV_app]
theorem over_rep {cu : List Value} {n k : Nat} {c : Ce} (h : cu.take (n * 5) = cellsV (List.replicate n c)) (hl : (n + k) * 5 ≤ cu.length) : (over cu (n * 5) (cellsV (List.replicate k c))).take ((n + k) * 5) = cellsV (List.replicate (n + k) c) := by
  have e : (n + k) * 5 = (cellsV (List.replicate n c) ++ cellsV (List.replicate k c)).length := by rw [List.length_append, rep_len, rep_len]; omega
  rw [over, h, rep_add, e]
  exact List.take_left
theorem rep_at {cu : List Value} {n k : Nat} {c : Ce} (h : cu.take (n * 5) = cellsV (List.replicate n c)) (hk : k ≤ n) (j : Nat) (v : Value) (hj : (cellsV (List.replicate k c))[j]? = some v) : cu[j]? = some v := by
  have hjl := (List.getElem?_eq_some_iff.1 hj).1
  rw [rep_len] at hjl
  have e : (cu.take (n * 5))[j]? = cu[j]? := List.getElem?_take_of_lt (by omega)
  rw [← e, h, show n = k + (n - k) by omega, rep_add, List.getElem?_append_left (by rw [rep_len]; exact hjl)]
  exact hj
set_option maxHeartbeats 4000000 in
set_option maxRecDepth 100000 in
/-- One cell, m times. -/
theorem repeat_any (w : World) (c : Ce) (va : Value) (m : Nat) (ha : Rd w 5 va 1 (cellsV [c])) (h1 : 1 ≤ m) (h2 : m ≤ 100000) : Calls Tryz.prog 36 #[va, .int .i64 m] w fun e w' =>
    ∃ v, e = .returned v ∧ Own w' 47 5 v m (cellsV (List.replicate m c)) ∧ Chg w w' nob ∧ ∀ k, blkOf v k → w.heap.size ≤ k := by
  obtain ⟨a1, c1, rfl, hn1, hx, hcl⟩ := ha
  have HC := Lib.hid hcl
  clear hcl
  obtain ⟨g, o, rfl, _⟩ := HC.out 0 (.int .i32 c.r) rfl
  have hmul := mul_any w 1 m (by omega) (by omega) (by omega)
  rw [Nat.one_mul] at hmul
  have HM := Lib.hid hmul
  obtain ⟨wm, Z, hmk, hbm, hzs, hcm⟩ := make_cells w m h2
  have HBM := Lib.hid hbm
  have HCM := Lib.hid hcm
  have HSR : Hid (∀ (j : Nat) (v : Value), (cellsV [c])[j]? = some v → wm.cell? ((⟨g, o, none⟩ : Addr).add j) = some v) := Lib.hid (fun j v hv => by
    obtain ⟨b, o', he, hc⟩ := HC.out j v hv
    cases he
    rw [Addr.add_lit]
    exact hcm.cell hc id)
  have hul : (1 : Int) ≤ (m : Int) := by omega
  clear hmul hbm hcm
  go_enter Tryz.func36, Tryz.ntmps36
  go_wp2_with fail
  go_at_call 62
  refine HM.out.mono ?_
  rintro e w' ⟨rfl, rfl⟩
  go_wp2_with (refine wpList_copy rfl (.tmp 31) (.tmp 32) 22 22 rfl 47 5 u_cells' (by kernel_rfl) _ 0 m m ⟨g, o, none⟩ 1 c1 rfl rfl Z _ HBM.out (cellsV [c]) 1 (by (show 1 = min 1 m); omega) rfl HSR.out (by rw [hzs]; (show 0 + 5 ≤ m * 5); omega) (cellsV_one _) ?_)
  intro w1 hb1 hc1
  have hHZ : Hid ((over Z.toList 0 (cellsV [c])).take 5 = cellsV (List.replicate 1 c)) := Lib.hid (by simp [over, cellsV, Ce.cs])
  have hHS : Hid ((over Z.toList 0 (cellsV [c])).length = m * 5) := Lib.hid (by rw [over_len (by simp [cellsV, Ce.cs]; omega)]; simpa using hzs)
  obtain ⟨cur, hcur⟩ : ∃ cur, over Z.toList 0 (cellsV [c]) = cur := ⟨_, rfl⟩
  rw [hcur] at hb1 hHZ hHS
  have HB1 := Lib.hid hb1
  have HC1 : Hid (Chg w' w1 nob) := Lib.hid (HCM.out.trans hc1 (fun i hi h => by subst h; exact absurd hi (Nat.lt_irrefl _)))
  have hm0 : ¬ m = 0 := by omega
  clear hb1 hc1 hcur
  go_wp2_with fail
  go_loopw [8] (fun nv wr => ∃ (n : Nat) (cu : List Value), 1 ≤ n ∧ n ≤ m ∧ nv = .int .i64 n ∧ Hid (Blk wr w'.heap.size 47 cu.toArray) ∧ Hid (cu.take (n * 5) = cellsV (List.replicate n c)) ∧ Hid (cu.length = m * 5) ∧ Hid (Chg w' wr nob)) (fun nv _ => m - (intOf nv).toNat)
  case atStart => exact ⟨1, cur, Nat.le_refl _, h1, rfl, HB1, hHZ, hHS, HC1⟩
  case round =>
    obtain ⟨n, cu, hn1, hnm, rfl, HB, HTK, HLN, HC2⟩ := hrel
    by_cases hlt : n < m
    · have hlti : (n : Int) < (m : Int) := by omega
      have hn0 : (0 : Int) ≤ (n : Int) := by omega
      have hne : ¬ m = n := by omega
      have hle : (n : Int) ≤ (m : Int) := by omega
      go_wp2_with fail
      refine wp_one [] [7] [] [0, 1, 2, 3, 4, 5, 6, 7, 8, 9] rfl (by kernel_rfl) (fun _ _ _ _ _ h => h) ?_; simp only [List.map_cons, List.map_nil, List.getElem?_toArray, List.getElem?_cons_zero, List.getElem?_cons_succ]
      (repeat (first | (apply can0; (· rfl); (· rfl); (· (intro w'; first | (go_simp; with_reducible rfl) | (go_simp; done))); simp only [Act.put, List.setIfInBounds_toArray, List.set_cons_zero, List.set_cons_succ]) | (apply can1; (· rfl); (· rfl); (· (first | (go_simp; with_reducible rfl) | (go_simp; done))); simp only [Act.put, List.setIfInBounds_toArray, List.set_cons_zero, List.set_cons_succ]) | (apply canN; (· rfl); (· rfl); simp only [Act.put, List.setIfInBounds_toArray, List.set_cons_zero, List.set_cons_succ]) | (apply canN1; (· rfl); (· rfl); simp only [Act.put, List.setIfInBounds_toArray, List.set_cons_zero, List.set_cons_succ]) | (apply can0; (· rfl); (· (go_simp; done)); (· (intro w'; first | (go_simp; with_reducible rfl) | (go_simp; done))); simp only [Act.put, List.setIfInBounds_toArray, List.set_cons_zero, List.set_cons_succ]) | (apply can1; (· rfl); (· (go_simp; done)); (· (first | (go_simp; with_reducible rfl) | (go_simp; done))); simp only [Act.put, List.setIfInBounds_toArray, List.set_cons_zero, List.set_cons_succ]) | (apply canN; (· rfl); (· (go_simp; done)); simp only [Act.put, List.setIfInBounds_toArray, List.set_cons_zero, List.set_cons_succ]) | (apply canN1; (· rfl); (· (go_simp; done)); simp only [Act.put, List.setIfInBounds_toArray, List.set_cons_zero, List.set_cons_succ])))
      obtain ⟨k, hk⟩ : ∃ k, min n (m - n) = k := ⟨_, rfl⟩
      have hk1 : 1 ≤ k ∧ k ≤ n ∧ n + k ≤ m := by omega
      obtain ⟨k1, k2, k3⟩ := hk1
      have HKK := Lib.hid hk
      clear hk
      refine canW rfl [] rfl (fun K hK => ?_)
      rw [if_pos (by rfl)]
      refine wp_copy (.tmp 41) (.tmp 44) 22 22 rfl 47 5 u_cells' (by kernel_rfl) w'.heap.size (n * 5) (m - n) (m - n) ⟨w'.heap.size, 0, none⟩ n m (by first | rfl | (simp [Act.eval]; done)) (by first | rfl | (simp [Act.eval]; done)) cu.toArray _ HB.out.drew (cellsV (List.replicate k c)) k HKK.out.symm (rep_len k c) ?_ ?_ (cellsV_one _) ?_
      · intro j v hj
        rw [Addr.add_lit, Nat.zero_add, (HB.out.drew).cell]
        simpa using rep_at HTK.out k2 j v hj
      · rw [rep_len]
        have := HLN.out
        simp only [List.size_toArray]
        omega
      · intro w2 hb2 hc2
        have hw : IntKind.i64.wrap ((n : Int) + (k : Int)) = ((n + k : Nat) : Int) := by rw [show ((n : Int) + (k : Int)) = ((n + k : Nat) : Int) by omega]; simp only [IntKind.wrap, IntKind.bits, IntKind.signed]; simp; omega
        have HB2 : Hid (Blk w2 w'.heap.size 47 (over cu (n * 5) (cellsV (List.replicate k c))).toArray) := Lib.hid (by simpa using hb2)
        have HTK2 := Lib.hid (over_rep (k := k) HTK.out (by rw [HLN.out]; omega))
        have HLN2 := Lib.hid (show (over cu (n * 5) (cellsV (List.replicate k c))).length = m * 5 by rw [over_len (by rw [rep_len, HLN.out]; omega)]; exact HLN.out)
        have HC3 : Hid (Chg w' w2 nob) := Lib.hid (HC2.out.drew.trans hc2 (fun i hi h => by subst h; exact absurd hi (Nat.lt_irrefl _)))
        clear hb2 hc2
        obtain ⟨cu2, hcu2⟩ : ∃ cu2, over cu (n * 5) (cellsV (List.replicate k c)) = cu2 := ⟨_, rfl⟩
        rw [hcu2] at HB2 HTK2 HLN2
        clear hcu2
        simp only [goInt]
        (refine hK _ _ (fun u hu => by cases hu) ?_; clear hK K; try simp only [Act.put, List.setIfInBounds_toArray, List.set_cons_zero, List.set_cons_succ])
        (repeat (first | (apply can0; (· rfl); (· rfl); (· (intro w'; first | (go_simp; with_reducible rfl) | (go_simp; done))); simp only [Act.put, List.setIfInBounds_toArray, List.set_cons_zero, List.set_cons_succ]) | (apply can1; (· rfl); (· rfl); (· (first | (go_simp; with_reducible rfl) | (go_simp; done))); simp only [Act.put, List.setIfInBounds_toArray, List.set_cons_zero, List.set_cons_succ]) | (apply canN; (· rfl); (· rfl); simp only [Act.put, List.setIfInBounds_toArray, List.set_cons_zero, List.set_cons_succ]) | (apply canN1; (· rfl); (· rfl); simp only [Act.put, List.setIfInBounds_toArray, List.set_cons_zero, List.set_cons_succ]) | (apply can0; (· rfl); (· (go_simp; done)); (· (intro w'; first | (go_simp; with_reducible rfl) | (go_simp; done))); simp only [Act.put, List.setIfInBounds_toArray, List.set_cons_zero, List.set_cons_succ]) | (apply can1; (· rfl); (· (go_simp; done)); (· (first | (go_simp; with_reducible rfl) | (go_simp; done))); simp only [Act.put, List.setIfInBounds_toArray, List.set_cons_zero, List.set_cons_succ]) | (apply canN; (· rfl); (· (go_simp; done)); simp only [Act.put, List.setIfInBounds_toArray, List.set_cons_zero, List.set_cons_succ]) | (apply canN1; (· rfl); (· (go_simp; done)); simp only [Act.put, List.setIfInBounds_toArray, List.set_cons_zero, List.set_cons_succ])))
        refine canE ?_
        go_wp2
        go_roundw
        case rel => exact ⟨n + k, cu2, by omega, by omega, by go_num, HB2, HTK2, HLN2, HC3⟩
        case measure => simp [intOf]; omega
    · obtain rfl : n = m := by omega
      go_wp2
      go_ret
      refine ⟨_, rfl, ?_, HC2.out, fun k hk => by cases hk; exact Nat.le_refl _⟩
      refine ⟨rep_len _ _, .inr ⟨w'.heap.size, n, cu.toArray, rfl, Nat.zero_le _, HB.out, Nat.le_refl _, by unfold maxLen; omega, by simpa using HLN.out, by simpa using HTK.out⟩⟩
end Go.Proofs.YtmbdpcamhkdkmaaGreatDoor
