/-
  Chapter 8, the document's answer: Feed.
-/
import Derived.Test.YtaficleoimfejaaEsc28
namespace Go.Proofs.Ytaficleoimfejaa
open Go.RowKit
set_option linter.unusedVariables false
set_option linter.unusedSimpArgs false

theorem u_revents : Try.prog.underlying 31 = some (.slice 50) := by kernel_rfl
theorem i_revent : (Try.prog.info? 50).map (fun i => (i.zero, i.size, i.bytes)) = some (some (.agg #[.int .i64 0, .int .i32 0, .slice none 0 0, .int .i32 0, .int .i32 0, .int .i32 0, .string .empty]), 7, 72) := by kernel_rfl
def refRun (s : RS) (l : List Int) : RS × List Ev := l.foldl (fun a r => ((refOne a.1 r).1, a.2 ++ (refOne a.1 r).2)) (s, [])
theorem refRun_snoc (s : RS) (l : List Int) (r : Int) : refRun s (l ++ [r]) = ((refOne (refRun s l).1 r).1, (refRun s l).2 ++ (refOne (refRun s l).1 r).2) := by unfold refRun; rw [List.foldl_append]; rfl
section
variable {s : RS} {n : Nat} {r : Int}
theorem RSok.up (h : RSok s n) : RSok s (n + 1) := ⟨h.st0, h.st7, h.ctl, by have := h.plen; omega, h.tlen, h.rng⟩
theorem RSok.st (h : RSok s n) (st : Int) (h0 : 0 ≤ st) (h7 : st ≤ 7) (h3 : st ≠ 3) : RSok { s with st := st } (n + 1) := ⟨h0, h7, fun h => absurd h h3, h.up.plen, h.tlen, h.rng⟩
theorem beginS_ok (nx : Int) (h0 : 0 ≤ nx) (h7 : nx ≤ 7) (n : Nat) : RSok (beginS nx) n := ⟨h0, h7, fun _ => by simp [beginS], by simp [beginS], by simp [beginS], fun x hx => by simp [beginS] at hx; omega⟩
theorem rok_escape (h : RSok s n) : RSok (refEscape s r).1 (n + 1) := by
  unfold refEscape
  (repeat' split) <;> first | exact h.st _ (by omega) (by omega) (by omega) | exact beginS_ok _ (by omega) (by omega) _ | skip
  exact ⟨by simp [beginS], by simp [beginS], fun _ => by simp [beginS], by simp [beginS], by simp [beginS], fun x hx => by simp [beginS] at hx; omega⟩
theorem rok_between (h : RSok s n) : RSok (refBetween s r).1 (n + 1) := by
  unfold refBetween
  (repeat' split) <;> first | exact h.st _ (by omega) (by omega) (by omega) | exact h.up | skip
  all_goals exact ⟨h.st0, h.st7, h.ctl, h.up.plen, h.tlen, h.rng⟩
theorem rok_control (h : RSok s n) : RSok (refControl s r).1 (n + 1) := by
  by_cases h48 : r < 48
  · unfold refControl
    (repeat' split) <;> first | exact h.up | (exfalso; omega) | exact ⟨h.st0, h.st7, h.ctl, h.up.plen, h.tlen, h.rng⟩
  · by_cases h57 : r ≤ 57
    · rw [show (refControl s r).1 = refDigit { s with sp := s.sp || (s.inter != 0) } r by unfold refControl; rw [if_neg (by omega), if_neg (by omega), if_pos h57]]
      refine ⟨h.st0, h.st7, fun h3 h0 => h.ctl h3 ?_, by have := h.plen; simp [refDigit]; omega, h.tlen, fun x hx => ?_⟩
      · have := congrArg List.length h0
        simp [refDigit] at this
        exact this
      · rcases List.mem_or_eq_of_mem_set hx with h1 | h1
        · exact h.rng x h1
        · subst h1
          unfold mnI mxI
          (repeat' split) <;> omega
    · unfold refControl
      rw [if_neg (by omega), if_neg (by omega), if_neg h57]
      split
      · refine ⟨h.st0, h.st7, fun _ => by simp, by have := h.plen; simp; omega, h.tlen, fun x hx => ?_⟩
        rcases List.mem_append.1 hx with h1 | h1
        · exact h.rng x h1
        · rw [List.mem_singleton] at h1; omega
      · (repeat' split) <;> first | exact h.up | exact h.st _ (by omega) (by omega) (by omega) | exact ⟨h.st0, h.st7, h.ctl, h.up.plen, h.tlen, h.rng⟩
theorem rok_one (h : RSok s n) : RSok (refOne s r).1 (n + 1) := by
  unfold refOne refTold
  (repeat' split) <;> first | exact rok_escape h | exact rok_between h | exact rok_control h | exact h.up | exact h.st _ (by omega) (by omega) (by omega) | skip
  all_goals exact ⟨h.st0, h.st7, h.ctl, h.up.plen, by simp; omega, h.rng⟩
theorem rok_take (h : RSok s n) (l : List Int) : ∀ k, k ≤ l.length → RSok (refRun s (l.take k)).1 (n + k)
  | 0, _ => h
  | k + 1, hk => by
    rw [take_snoc (show k < l.length by omega) (0 : Int), refRun_snoc]
    exact rok_one (rok_take h l k (by omega))
theorem rok_run (h : RSok s n) (l : List Int) : RSok (refRun s l).1 (n + l.length) := by
  have := rok_take h l l.length (Nat.le_refl _)
  rwa [List.take_length] at this
theorem esc_len : (refEscape s r).2.length ≤ 1 := by unfold refEscape; (repeat' split) <;> simp
theorem bet_len : (refBetween s r).2.length ≤ 1 := by unfold refBetween; (repeat' split) <;> simp <;> (try split) <;> simp
theorem con_len : (refControl s r).2.length ≤ 1 := by unfold refControl; (repeat' split) <;> simp <;> (try split) <;> simp
theorem one_len : (refOne s r).2.length ≤ 1 := by
  unfold refOne refTold
  (repeat' split) <;> first | exact esc_len | exact bet_len | exact con_len | simp
theorem take_len (l : List Int) : ∀ k, k ≤ l.length → (refRun s (l.take k)).2.length ≤ k
  | 0, _ => Nat.le_refl _
  | k + 1, hk => by
    rw [take_snoc (show k < l.length by omega) (0 : Int), refRun_snoc, List.length_append]
    have h1 := take_len l k (by omega)
    have h2 := one_len (s := (refRun s (l.take k)).1) (r := l.getD k 0)
    omega
theorem run_len (l : List Int) : (refRun s l).2.length ≤ l.length := by
  have := take_len (s := s) l l.length (Nat.le_refl _)
  rwa [List.take_length] at this
end
/-- What a sign tells goes behind. -/
theorem RO.push {x : Nat} {s1 s2 : RS} {l e : List Ev} {F F1 F2 P1 R1 P2 R2 : Nat → Prop} {w wr w2 w3 : World} {ov ov' v : Value} {q1 q2 : List (Ev × Value)}
    (hc : Chg w wr F) (hF1 : ∀ k, F1 k → F k ∨ w.heap.size ≤ k) (hP1 : ∀ k, P1 k → w.heap.size ≤ k ∧ ¬ F1 k ∧ k < wr.heap.size ∧ ¬ R1 k) (hR1 : ∀ k, R1 k → w.heap.size ≤ k ∧ ¬ F1 k ∧ k < wr.heap.size)
    (hq1 : q1.map Prod.fst = l) (hq13 : ∀ y ∈ q1, Rd wr 1 y.2 y.1.ps.length (intI y.1.ps) ∧ ∀ k, blkOf y.2 k → P1 k) (hov : ∀ k, blkOf ov k → R1 k)
    (hc2 : Chg wr w2 F1) (hR2' : RR w2 x s2 F2) (hF2 : ∀ k, F2 k → F1 k ∨ wr.heap.size ≤ k) (hP2 : ∀ k, P2 k → wr.heap.size ≤ k ∧ ¬ F2 k ∧ k < w2.heap.size ∧ ¬ R2 k)
    (hq2 : q2.map Prod.fst = e) (hq23 : ∀ y ∈ q2, Rd w2 1 y.2 y.1.ps.length (intI y.1.ps) ∧ ∀ k, blkOf y.2 k → P2 k)
    (ho : Own w3 50 7 ov' (q1.length + q2.length) (q1.flatMap evc ++ q2.flatMap evc)) (hc3 : Chg w2 w3 (blkOf ov)) (hf : ∀ k, blkOf ov' k → blkOf ov k ∨ w2.heap.size ≤ k) : RO x s2 (l ++ e) F w w3 ov' := by
  have z1 := hc.size
  have z2 := hc2.size
  have z3 := hc3.size
  have hovF : ∀ k, F2 k → ¬ blkOf ov k := fun k hk hb => by
    have h1 := hR1 k (hov k hb)
    rcases hF2 k hk with h | h
    · exact h1.2.1 h
    · omega
  refine ⟨(hc.trans hc2 (fun i hi h => (hF1 i h).resolve_right (by omega))).trans hc3 (fun i hi h => by have := (hR1 i (hov i h)).1; omega), F2, fun k => P1 k ∨ P2 k, blkOf ov', hR2'.kept hc3 hovF,
    ⟨q1 ++ q2, by rw [List.map_append, hq1, hq2], by rw [List.length_append, List.flatMap_append]; exact ho, fun y hy => ?_, fun k hk => hk⟩, fun k hk => ?_, fun k hk => ?_, fun k hk => ⟨?_, fun hF => ?_, ho.lt hk⟩⟩
  · rcases List.mem_append.1 hy with hy | hy
    · exact ⟨((hq13 y hy).1.kept hc2 (fun k hk => (hP1 k ((hq13 y hy).2 k hk)).2.1)).kept hc3 (fun k hk h => (hP1 k ((hq13 y hy).2 k hk)).2.2.2 (hov k h)), fun k hk => .inl ((hq13 y hy).2 k hk)⟩
    · exact ⟨(hq23 y hy).1.kept hc3 (fun k hk h => by have h1 := (hP2 k ((hq23 y hy).2 k hk)).1; have h2 := (hR1 k (hov k h)).2.2; omega), fun k hk => .inr ((hq23 y hy).2 k hk)⟩
  · rcases hF2 k hk with h | h
    · exact hF1 k h
    · exact .inr (by omega)
  · rcases hk with hk | hk
    · have h1 := hP1 k hk
      refine ⟨h1.1, fun h => ?_, by omega, fun h => ?_⟩
      · rcases hF2 k h with h | h
        · exact h1.2.1 h
        · omega
      · rcases hf k h with h | h
        · exact h1.2.2.2 (hov k h)
        · omega
    · have h1 := hP2 k hk
      refine ⟨by omega, h1.2.1, by omega, fun h => ?_⟩
      rcases hf k h with h | h
      · have := (hR1 k (hov k h)).2.2; omega
      · omega
  · rcases hf k hk with h | h
    · exact (hR1 k (hov k h)).1
    · omega
  · rcases hf k hk with h | h
    · exact hovF k hF h
    · have := hR2'.lt hF; omega
set_option maxRecDepth 100000 in
set_option maxHeartbeats 4000000 in
theorem reffeed_any {w : World} {x : Nat} {s : RS} {F : Nat → Prop} {n : Nat} (h : RR w x s F) (hg : RSok s n) (va : Value) (l : List Int) (ha : Rd w 1 va l.length (runesV l)) (hd : l ≠ [] → ∀ k, blkOf va k → ¬ F k) (hl : n + l.length ≤ 900000) :
    Calls Try.prog 12 #[.pointer (some ⟨x, 0, none⟩), va] w fun e w' => ∃ v, e = .returned v ∧ RO x (refRun s l).1 (refRun s l).2 F w w' v := by
  obtain ⟨a1, c1, rfl, hn1, hlen1, hx1⟩ := ha
  have hcell : ∀ k, k < l.length → ∃ g o, a1 = some ⟨g, o, none⟩ ∧ ¬ F g ∧ w.cell? ⟨g, o + k, none⟩ = some (.int .i32 (l.getD k 0)) := fun k hk => by
    obtain ⟨g, o, h1, h2⟩ := hx1 k (.int .i32 (l.getD k 0)) (by simp [runesV, List.getD, hk])
    exact ⟨g, o, h1, hd (by intro hn; rw [hn] at hk; simp at hk) g (by rw [h1]; rfl), h2⟩
  have HU0 := Lib.hid (RO.nil (RU.refl h))
  have HC := Lib.hid hcell
  have HG := Lib.hid hg
  clear hcell hd hx1 h hlen1 hg
  go_enter Try.func12, Try.ntmps12
  go_wp2
  go_loopw [5, 6] (fun ov i wr => ∃ k : Nat, k ≤ l.length ∧ i = .int .i64 k ∧ RO x (refRun s (l.take k)).1 (refRun s (l.take k)).2 F w wr ov)
    (fun _ i _ => l.length - (intOf i).toNat)
  case atStart => exact ⟨0, Nat.zero_le _, rfl, HU0.out⟩
  case round =>
    obtain ⟨k, hk, rfl, hU⟩ := hrel
    have HU := Lib.hid hU
    clear hU
    by_cases hkl : k < l.length
    · have hkn : (k : Int) < (l.length : Int) := by omega
      obtain ⟨g, o, rfl, hng, hcx⟩ := HC.out k hkl
      have hcr := HU.out.1.cell hcx hng
      have hst := refRun_snoc s (l.take k) (l.getD k 0)
      rw [← take_snoc hkl] at hst
      have hok := rok_run HG.out (l.take k)
      rw [List.length_take, Nat.min_eq_left hk] at hok
      have hrl := run_len (s := s) (l.take k)
      rw [List.length_take, Nat.min_eq_left hk] at hrl
      generalize l.getD k 0 = c at *
      have hel := one_len (s := (refRun s (l.take k)).1) (r := c)
      have HST := Lib.hid hst
      have HOK := Lib.hid hok
      clear hst hok hcx
      obtain ⟨hcU, F1, P1, R1, hP1, ⟨q1, hq11, hq12, hq13, hq14⟩, hF1, hPP, hRR⟩ := HU.out
      obtain ⟨ao, co, rfl, hco, hcm, hon, hos⟩ := hq12.form
      have hq1l : q1.length ≤ 900000 := by have : q1.length = (refRun s (l.take k)).2.length := by rw [← hq11, List.length_map]
                                           omega
      have HP1 := Lib.hid hP1
      have HcU := Lib.hid hcU
      have HF1 := Lib.hid hF1
      have HPP := Lib.hid hPP
      have HRR := Lib.hid hRR
      have HQ11 := Lib.hid hq11
      have HQ12 := Lib.hid hq12
      have HQ13 := Lib.hid hq13
      have HQ14 := Lib.hid hq14
      clear hcU hF1 hP1 hPP hRR hq11 hq12 hq13 hq14 hon hos HU hrl
      generalize (refRun s (l.take k)).1 = s1 at *
      generalize (refRun s (l.take k)).2 = o1 at *
      go_wp2_with fail
      go_at_call 18
      refine (refone_any HP1.out HOK.out (by omega) c).mono ?_
      rintro e w2 ⟨v, rfl, hc2, F2, P2, R2, hR2, ⟨q2, hq21, hq22, hq23, hq24⟩, hF2, hP2, hRR2⟩
      obtain ⟨av, cv, rfl, hcv, hcvm, hvn, hvs⟩ := hq22.form
      have hq2l : q2.length ≤ 1 := by have : q2.length = (refOne s1 c).2.length := by rw [← hq21, List.length_map]
                                      omega
      have hl7 : (q2.flatMap evc).length = q2.length * 7 := hq22.1
      have hnews : ∀ a, av = some a → ∀ j u, (q2.flatMap evc)[j]? = some u → w2.cell? (a.add j) = some u := fun a ha j u hu => by
        obtain ⟨g', rfl⟩ := hvs a ha
        subst ha
        rw [Addr.add_lit, Nat.zero_add]
        have hj := (List.getElem?_eq_some_iff.1 hu).1
        rw [hq22.cellAt j (by omega), hu]
      have hone : ∀ u ∈ q2.flatMap evc, u.oneCell' = true := fun u hu => by
        obtain ⟨y, hy, huy⟩ := List.mem_flatMap.1 hu
        obtain ⟨px, _, hpx, _⟩ := (hq23 y hy).1.form
        simp only [evc, List.mem_cons, List.not_mem_nil, or_false] at huy
        rcases huy with h | h | h | h | h | h | h <;> (subst h; first | rfl | (rw [hpx]; rfl))
      have HO2 := Lib.hid (HQ12.out.kept hc2 (fun k hk => (HRR.out k (HQ14.out k hk)).2.1))
      have HC2 := Lib.hid hc2
      have HR2 := Lib.hid hR2
      have HF2 := Lib.hid hF2
      have HP2 := Lib.hid hP2
      have HQ21 := Lib.hid hq21
      have HQ23 := Lib.hid hq23
      have HVN := Lib.hid hvn
      have HL7 := Lib.hid hl7
      have HNW := Lib.hid hnews
      have HON := Lib.hid hone
      clear hc2 hR2 hF2 hP2 hRR2 hq21 hq22 hq23 hq24 hvn hvs hl7 hnews hone hcr hel
      go_wp2_with (at_builtin; refine wpList_app rfl (.tmp 13) (.tmp 19) 31 rfl 50 (.agg #[.int .i64 0, .int .i32 0, .slice none 0 0, .int .i32 0, .int .i32 0, .int .i32 0, .string .empty]) 7 72 i_revent u_revents rfl (by decide) (.slice ao q1.length co) q1.length _ rfl HO2.out av q2.length cv (q2.flatMap evc) rfl HVN.out HL7.out HNW.out HON.out (by unfold maxLen; omega) (by omega) ?_)
      intro v3 w3 ho3 hch3 hfo3
      have hB := RO.push (s1 := s1) (v := .slice av q2.length cv) HcU.out HF1.out HPP.out HRR.out HQ11.out HQ13.out HQ14.out HC2.out HR2.out HF2.out HP2.out HQ21.out HQ23.out ho3 hch3 hfo3
      obtain ⟨a3, c3, rfl, _⟩ := ho3.form
      have HB := Lib.hid hB
      clear hB ho3 hch3 hfo3
      go_wp2
      go_roundw
      case rel => exact ⟨k + 1, by omega, by go_num, by rw [HST.out]; exact HB.out⟩
      case measure => simp [intOf]; omega
    · obtain rfl : k = l.length := by omega
      rw [List.take_length] at HU
      go_wp2
      go_ret
      exact ⟨_, rfl, HU.out⟩
end Go.Proofs.Ytaficleoimfejaa
