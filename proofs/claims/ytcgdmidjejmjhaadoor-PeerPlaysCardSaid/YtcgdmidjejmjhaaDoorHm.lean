
/-
  Package mac: Hmac, Tag, Equal.
-/
import Derived.Test.YtcgdmidjejmjhaaDoorPad
import Derived.Test.YtcgdmidjejmjhaaDoorJoin
import Derived.Laws.Closers25b
namespace Go.Proofs.YtcgdmidjejmjhaaDoor
open Go.RowKit
set_option linter.unusedVariables false
set_option linter.unusedSimpArgs false

theorem sumL_byte (l : List Int) : ∀ x ∈ sumL l, 0 ≤ x ∧ x ≤ 255 := by
  intro x hx
  obtain ⟨y, _, h⟩ := List.mem_flatMap.1 hx
  have := wraps_u8 (y / 16777216)
  simp only [fourL, List.mem_cons, List.not_mem_nil, or_false] at h
  rcases h with rfl | rfl | rfl | rfl <;> (simp [IntKind.wrap, IntKind.bits, IntKind.signed]; omega)
theorem paddedL_byte (k : List Int) (b : Int) : ∀ x ∈ paddedL k b, 0 ≤ x ∧ x ≤ 255 := by
  intro x hx
  obtain ⟨i, _, rfl⟩ := List.mem_map.1 hx
  exact ⟨bits_lo_u8 _ _ _, bits_hi_u8 _ _ _⟩
theorem paddedL_len (k : List Int) (b : Int) : (paddedL k b).length = 64 := by simp [paddedL]
section
variable {w0 w : World} {a : Act} {K : Act → World → Prop} {Q : Exit → Act → World → Prop} {o : Oper} {ops : Array Oper}
/-- Bytes put behind a full slice: nothing of what was there is written to. -/
theorem run_appfu (ty : TypeId) (g : Nat) (L M : List Int) (u : Value) (hL : Rd w 1 (.slice (some ⟨g, 0, none⟩) L.length L.length) L.length (bytesV L)) (hM : Rd w 1 u M.length (bytesV M)) (hn : NilOk u) (hl : L.length + M.length ≤ 1000000) :
    ∃ v' w', (Builtin.append_ #[22, 22] ty #[.slice (some ⟨g, 0, none⟩) L.length L.length, u]).run Tryd.prog w = .ok v' w' ∧ Rd w' 1 v' (L ++ M).length (bytesV (L ++ M)) ∧ NilOk v' ∧ Chg w w' nob := by
  obtain ⟨i, hi, hz, hsize, hby⟩ := info_parts i_byte
  obtain ⟨ao, cap, rfl, hc, hlen⟩ := hM.form
  have hn0 := hM.nil0 hn
  cases M with
  | nil =>
    have hs : Src Tryd.prog i.size 22 (.slice ao 0 cap) 0 [] w := by
      cases ao with
      | none => exact Src.ofNil w u_bytes cap
      | some ad => exact Src.ofSlice w u_bytes ad 0 cap [] (by simp) (fun j u h => by simp at h) (fun u h => by cases h)
    exact ⟨_, w, run_append_nothing w _ _ ty _ i u_bytes hi (some ⟨g, 0, none⟩) L.length L.length (Nat.le_refl _) _ hs, by simpa using hL, nilOk_some _ _ _, Chg.refl _ _⟩
  | cons x M =>
    cases ao with
    | none => exact absurd (hn0 rfl).1 (by simp)
    | some ad =>
      obtain ⟨v', w', hr, ho, hg⟩ := run_append_arg_grows (P := Tryd.prog) w 22 ty 5 i (.int .u8 0) 1 1 u_bytes hi hz hsize hby rfl (by decide) ⟨g, 0, none⟩ L.length L.length (bytesV L) (by simp [bytesV]) (hL.news _ rfl) ad (x :: M).length cap (bytesV (x :: M)) (by simp [bytesV]) (hM.news ad rfl) (by simp) (by unfold maxLen; omega) (by omega)
      have ho2 : Own w' 5 1 v' (L ++ x :: M).length (bytesV (L ++ x :: M)) := by
        refine ⟨by simp [bytesV], ?_⟩
        have h2 := ho.2
        rw [show L.length + (x :: M).length = (L ++ x :: M).length by simp, show bytesV L ++ bytesV (x :: M) = bytesV (L ++ x :: M) by simp [bytesV]] at h2
        rcases h2 with h | ⟨g, cap, cur, h1, _, h2⟩
        · exact .inl h
        · exact .inr ⟨g, cap, cur, h1, Nat.zero_le _, h2⟩
      exact ⟨v', w', hr, ho2.rd, ho2.nilOk, ⟨hg.os, hg.tape, hg.output, hg.size, fun k hk _ => hg.block k hk (by simp)⟩⟩
theorem wpList_appfu {rest : List Oper} (hgd : o.guard = none) (s x : Operand) (ho : o.op = .call { callee := .builtin .append, args := #[s, x], argTypes := #[22, 22] })
    (g : Nat) (L M : List Int) (u : Value) (hs : a.eval s = .slice (some ⟨g, 0, none⟩) L.length L.length) (hx : a.eval x = u) (hL : Rd w 1 (.slice (some ⟨g, 0, none⟩) L.length L.length) L.length (bytesV L)) (hM : Rd w 1 u M.length (bytesV M)) (hn : NilOk u) (hl : L.length + M.length ≤ 1000000)
    (h : ∀ v' w', Rd w' 1 v' (L ++ M).length (bytesV (L ++ M)) → NilOk v' → Chg w w' nob → wpList Tryd.prog ops Q rest (a.put o.dst v') w') : wpList Tryd.prog ops Q (o :: rest) a w :=
  wpList_plain hgd fun _ hK => by
    obtain ⟨v', w', hr, h1, h2, h3⟩ := run_appfu o.type g L M u hL hM hn hl
    unfold Oper.wp execOp
    simp only [ho, resolve, invoke, builtin, Sem.run_bind, Sem.run_pure, Result.andThen_ok, List.map_toArray, List.map_cons, List.map_nil, hs, hx, hr]
    exact hK _ _ (h v' w' h1 h2 h3)
end
theorem Fu.rd {w w' : World} {v : Value} {L : List Int} (h : Fu w w' v L) : ∃ g, v = .slice (some ⟨g, 0, none⟩) L.length L.length ∧ Rd w' 1 (.slice (some ⟨g, 0, none⟩) L.length L.length) L.length (bytesV L) ∧ w.heap.size ≤ g ∧ Chg w w' nob := by
  obtain ⟨g, cs, rfl, hb, ht, hl, hg, hc⟩ := h
  refine ⟨g, rfl, ⟨_, _, rfl, Nat.le_refl _, by simp [bytesV], fun j u hu => ⟨g, 0, rfl, ?_⟩⟩, hg, hc⟩
  rw [Nat.zero_add, hb.cell]
  have hj : j < L.length := by have := (List.getElem?_eq_some_iff.1 hu).1; simpa [bytesV] using this
  rw [← ht, List.getElem?_take_of_lt hj] at hu
  simpa using hu
theorem Ps.kept {w w' : World} {v : Value} {P : List (List Int)} (h : Ps w v P) (hc : Chg w w' nob) : Ps w' v P := by
  obtain ⟨vs, cap, b, o, rfl, h1, h2, h3, h4⟩ := h
  exact ⟨vs, cap, b, o, rfl, h1, h2, fun i u hu => hc.cell (h3 i u hu) id, fun i u l hu hl => ⟨(h4 i u l hu hl).1.kept hc (fun _ _ => id), (h4 i u l hu hl).2⟩⟩
theorem addS_zero {av : Option Addr} {cv : Nat} (h : ∀ a, av = some a → ∃ g, a = ⟨g, 0, none⟩) : addS av cv 0 = av := by
  unfold addS
  split
  · rfl
  · cases av with
    | none => rfl
    | some a =>
      obtain ⟨g, rfl⟩ := h a rfl
      simp [Addr.add_lit]
set_option maxRecDepth 100000 in
set_option maxHeartbeats 4000000 in
theorem hmac_any (w : World) (va vp : Value) (xs : List Int) (P : List (List Int)) (ht : Tab w) (ha : Rd w 1 va xs.length (bytesV xs)) (hn : NilOk va) (hb : ∀ x ∈ xs, 0 ≤ x ∧ x ≤ 255) (hl : xs.length ≤ 1000000)
    (hp : Ps w vp P) (h1 : 1 ≤ P.length) (h2 : P.length ≤ 1000000) (hpl : P.flatten.length ≤ 900000) :
    Calls Tryd.prog 33 #[va, vp] w fun e w' => ∃ v, e = .returned v ∧ Bx w w' v (hmacL xs P.flatten) := by
  have HA := Lib.hid ha
  have HN := Lib.hid hn
  have HBY := Lib.hid hb
  have HTT := Lib.hid ht
  have HP := Lib.hid hp
  have HPB := Lib.hid hp.bytes
  clear ha hn hb ht hp
  go_enter Tryd.func33, Tryd.ntmps33
  go_wp2_with fail
  go_at_call 38
  refine (padded_any w va xs 54 (by decide) HTT.out HA.out HN.out HBY.out hl).mono ?_
  rintro e w1 ⟨v1, rfl, hf1⟩
  obtain ⟨g1, rfl, hr1, _, hc1⟩ := hf1.rd
  have HR1 := Lib.hid hr1
  have HC1 := Lib.hid hc1
  clear hf1 hr1 hc1
  go_wp2_with fail
  go_at_call 39
  refine (join_any w1 vp P (HP.out.kept HC1.out) h1 (by omega) h2).mono ?_
  rintro e w2 ⟨v2, rfl, hr2, hn2, hc2⟩
  have HR2 := Lib.hid hr2
  have HN2 := Lib.hid hn2
  have HR1b := Lib.hid (HR1.out.kept hc2 (fun _ _ => id))
  have HC2 : Hid (Chg w w2 nob) := Lib.hid (HC1.out.trans hc2 (fun _ _ h => h))
  clear hr2 hn2 hc2
  have hpad := paddedL_len xs 54
  go_wp2_with (at_builtin; refine wpList_appfu rfl (.tmp 7) (.tmp 9) rfl g1 (paddedL xs 54) P.flatten v2 rfl rfl HR1b.out HR2.out HN2.out (by omega) ?_)
  intro v3 w3 hr3 hn3 hc3
  have HR3 : Hid (Rd w3 1 v3 (paddedL xs 54 ++ P.flatten).length (bytesV (paddedL xs 54 ++ P.flatten))) := Lib.hid (by simpa [hpad] using hr3)
  have HN3 := Lib.hid hn3
  have HC3 : Hid (Chg w w3 nob) := Lib.hid (HC2.out.trans hc3 (fun _ _ h => h))
  clear hr3 hn3 hc3
  go_wp2_with fail
  go_at_call 37
  refine (sum_any w3 v3 (paddedL xs 54 ++ P.flatten) (HTT.out.kept HC3.out id) HR3.out HN3.out (fun x hx => by
    rcases List.mem_append.1 hx with h | h
    · exact paddedL_byte _ _ x h
    · exact HPB.out x h) (by rw [List.length_append]; omega)).mono ?_
  rintro e w4 ⟨v4, rfl, hb4⟩
  have HB4 := Lib.hid hb4
  have HC4 : Hid (Chg w w4 nob) := Lib.hid (HC3.out.trans hb4.2.1 (fun _ _ h => h))
  clear hb4
  obtain ⟨S1, hS1⟩ : ∃ S1, sumL (paddedL xs 54 ++ P.flatten) = S1 := ⟨_, rfl⟩
  have hsl : S1.length = 32 := by rw [← hS1]; exact sumL_len _
  have HSB : Hid (∀ x ∈ S1, 0 ≤ x ∧ x ≤ 255) := Lib.hid (by rw [← hS1]; exact sumL_byte _)
  have HHM : Hid (hmacL xs P.flatten = sumL (paddedL xs 92 ++ S1)) := Lib.hid (by rw [← hS1]; rfl)
  rw [hS1] at HB4
  have HSL := Lib.hid hsl
  clear hS1 hsl hpad
  go_wp2_with fail
  go_at_call 38
  refine (padded_any w4 va xs 92 (by decide) (HTT.out.kept HC4.out id) (HA.out.kept HC4.out (fun _ _ => id)) HN.out HBY.out hl).mono ?_
  rintro e w5 ⟨v5, rfl, hf5⟩
  obtain ⟨g5, rfl, hr5, _, hc5⟩ := hf5.rd
  have HR5 := Lib.hid hr5
  have HB5 := Lib.hid (HB4.out.1.rd.kept hc5 (fun _ _ => id))
  have HN5 := Lib.hid HB4.out.1.nilOk
  have HC5 : Hid (Chg w w5 nob) := Lib.hid (HC4.out.trans hc5 (fun _ _ h => h))
  clear hf5 hr5 hc5
  have hpad := paddedL_len xs 92
  go_wp2_with (at_builtin; refine wpList_appfu rfl (.tmp 13) (.tmp 14) rfl g5 (paddedL xs 92) S1 v4 rfl rfl HR5.out HB5.out HN5.out (by rw [HSL.out]; omega) ?_)
  intro v6 w6 hr6 hn6 hc6
  have HR6 : Hid (Rd w6 1 v6 (paddedL xs 92 ++ S1).length (bytesV (paddedL xs 92 ++ S1))) := Lib.hid (by simpa [hpad] using hr6)
  have HN6 := Lib.hid hn6
  have HC6 : Hid (Chg w w6 nob) := Lib.hid (HC5.out.trans hc6 (fun _ _ h => h))
  clear hr6 hn6 hc6
  go_wp2_with fail
  go_at_call 37
  refine (sum_any w6 v6 (paddedL xs 92 ++ S1) (HTT.out.kept HC6.out id) HR6.out HN6.out (fun x hx => by
    rcases List.mem_append.1 hx with h | h
    · exact paddedL_byte _ _ x h
    · exact HSB.out x h) (by rw [List.length_append, HSL.out]; omega)).mono ?_
  rintro e w7 ⟨v7, rfl, hb7⟩
  have HB7 := Lib.hid (hb7.before HC6.out)
  clear hb7
  go_wp2
  go_ret
  exact ⟨_, rfl, by rw [HHM.out]; exact HB7.out⟩
set_option maxRecDepth 100000 in
set_option maxHeartbeats 4000000 in
theorem tag_any (w : World) (va vp : Value) (xs : List Int) (P : List (List Int)) (ht : Tab w) (ha : Rd w 1 va xs.length (bytesV xs)) (hn : NilOk va) (hb : ∀ x ∈ xs, 0 ≤ x ∧ x ≤ 255) (hl : xs.length ≤ 1000000)
    (hp : Ps w vp P) (h1 : 1 ≤ P.length) (h2 : P.length ≤ 1000000) (hpl : P.flatten.length ≤ 900000) :
    Calls Tryd.prog 26 #[va, vp] w fun e w' => ∃ v, e = .returned v ∧ Bx w w' v (tagL xs P.flatten) := by
  have HH := Lib.hid (hmac_any w va vp xs P ht ha hn hb hl hp h1 h2 hpl)
  clear ha hn hb ht hp
  go_enter Tryd.func26, Tryd.ntmps26
  go_wp2_with fail
  go_at_call 33
  refine HH.out.mono ?_
  rintro e w1 ⟨v1, rfl, hb1⟩
  obtain ⟨H, hH⟩ : ∃ H, hmacL xs P.flatten = H := ⟨_, rfl⟩
  have hHl : H.length = 32 := by rw [← hH]; exact sumL_len _
  have HT : Hid (tagL xs P.flatten = H.take 16) := Lib.hid (by rw [← hH]; rfl)
  rw [hH] at hb1
  obtain ⟨av, cv, rfl, hcv, _, _, hav⟩ := hb1.1.form
  have hrd := hb1.1.rd.cut (l := 0) (m := 16) (by omega) (by omega)
  have hnk := hb1.1.nilOk.cut (l := 0) (m := 16)
  have hz := addS_zero (cv := cv) hav
  rw [hz] at hrd hnk
  have HR : Hid (Rd w1 1 (.slice av 16 cv) (H.take 16).length (bytesV (H.take 16))) := Lib.hid (by
    have e : (H.take 16).length = 16 := by simp; omega
    rw [e]
    simpa [bytesV, List.map_take] using hrd)
  have HNK : Hid (NilOk (.slice av 16 cv)) := Lib.hid (by simpa using hnk)
  have HC1 := Lib.hid hb1.2.1
  clear hH hrd hnk hb1 hz hav
  go_wp2_with fail
  go_at_call 17
  refine (clone_any w1 _ (H.take 16) HR.out HNK.out (by simp; omega)).mono ?_
  rintro e w2 ⟨v2, rfl, hb2⟩
  have HB2 := Lib.hid (hb2.before HC1.out)
  clear hb2
  go_wp2
  go_ret
  exact ⟨_, rfl, by rw [HT.out]; exact HB2.out⟩
theorem bequal_any (w : World) (va vb : Value) (xs ys : List Int) (ha : Rd w 1 va xs.length (bytesV xs)) (hb : Rd w 1 vb ys.length (bytesV ys)) (hx : ∀ x ∈ xs, 0 ≤ x ∧ x ≤ 255) (hy : ∀ x ∈ ys, 0 ≤ x ∧ x ≤ 255) :
    Calls Tryd.prog 36 #[va, vb] w fun e w' => e = .returned (.bool (decide (xs = ys))) ∧ w' = w := by
  have h1 := rd_string w va xs ha
  have h2 := rd_string w vb ys hb
  have hd : Hid (((strOfNums xs).toList == (strOfNums ys).toList) = decide (xs = ys)) := Lib.hid (by
    rw [Bool.eq_iff_iff]
    simp only [beq_iff_eq, decide_eq_true_eq]
    refine ⟨fun h => strOfNums_inj hx hy (toList_inj h), fun h => by rw [h]⟩)
  clear ha hb hx hy
  go_enter Tryd.func36, Tryd.ntmps36
  go_wp2
  go_ret
  refine ⟨?_, rfl⟩
  show Ending.returned (Value.bool _) = _
  rw [hd.out]
theorem equal_any (w : World) (va vb : Value) (xs ys : List Int) (ha : Rd w 1 va xs.length (bytesV xs)) (hb : Rd w 1 vb ys.length (bytesV ys)) (hx : ∀ x ∈ xs, 0 ≤ x ∧ x ≤ 255) (hy : ∀ x ∈ ys, 0 ≤ x ∧ x ≤ 255) :
    Calls Tryd.prog 30 #[va, vb] w fun e w' => e = .returned (.bool (decide (xs = ys))) ∧ w' = w := by
  have HE := Lib.hid (bequal_any w va vb xs ys ha hb hx hy)
  clear ha hb hx hy
  go_enter Tryd.func30, Tryd.ntmps30
  go_wp2_with fail
  go_at_call 36
  refine HE.out.mono ?_
  rintro e w1 ⟨rfl, rfl⟩
  go_wp2
  go_ret
  exact ⟨rfl, rfl⟩
end Go.Proofs.YtcgdmidjejmjhaaDoor
