
/-
  Chapter 19: entries to be read; Encode, the program's and the document's.
-/
import Derived.Test.YtmekakecdgblaaaIdx1
import Derived.Test.YtmekakecdgblaaaCrc
namespace Go.Proofs.Ytmekakecdgblaaa
open Go.RowKit
set_option linter.unusedVariables false
set_option linter.unusedSimpArgs false

/-- Entries to be read behind an address. -/
def EnR (w : World) (a : Option Addr) (l : List En) : Prop :=
  ∀ i e, l[i]? = some e → ∃ b o, a = some ⟨b, o, none⟩ ∧ w.cell? ⟨b, o + i * 4, none⟩ = some (.int .u64 e.q) ∧ w.cell? ⟨b, o + i * 4 + 1, none⟩ = some (.int .u64 e.t) ∧ w.cell? ⟨b, o + i * 4 + 2, none⟩ = some (.int .i64 e.n) ∧ w.cell? ⟨b, o + i * 4 + 3, none⟩ = some (.int .i64 e.a)
theorem EnR.keptF {w w' : World} {a : Option Addr} {l : List En} {F : Nat → Prop} (h : EnR w a l) (hc : Chg w w' F) (hf : ∀ k, blkOf (.slice a 0 0) k → ¬ F k) : EnR w' a l := fun i e he => by
  obtain ⟨b, o, rfl, h0, h1, h2, h3⟩ := h i e he
  have hn : ¬ F b := hf b rfl
  exact ⟨b, o, rfl, hc.cell h0 hn, hc.cell h1 hn, hc.cell h2 hn, hc.cell h3 hn⟩
theorem EnR.kept {w w' : World} {a : Option Addr} {l : List En} (h : EnR w a l) (hc : Chg w w' nob) : EnR w' a l := h.keptF hc (fun _ _ => id)
def entsV (l : List En) : List Value := l.flatMap fun e => (enA e).toList
theorem entsV_len (l : List En) : (entsV l).length = l.length * 4 := by
  induction l with
  | nil => rfl
  | cons e l ih => simp only [entsV, List.flatMap_cons, List.length_append, List.length_cons] at ih ⊢; rw [ih]; simp; omega
theorem entsV_at : ∀ (l : List En) (k : Nat) (e : En), l[k]? = some e → ∀ j, j < 4 → (entsV l)[k * 4 + j]? = (enA e)[j]?
  | [], k, e, h, j, hj => by simp at h
  | x :: t, 0, e, h, j, hj => by
    cases h
    simp only [entsV, List.flatMap_cons, Nat.zero_mul, Nat.zero_add]
    rw [List.getElem?_append_left (by simpa using hj)]
    simp
  | x :: t, k + 1, e, h, j, hj => by
    have := entsV_at t k e (by simpa using h) j hj
    simp only [entsV, List.flatMap_cons] at this ⊢
    rw [List.getElem?_append_right (by simp; omega), ← this]
    congr 1
    simp
    omega
theorem EnR.ofRd {w : World} {a : Option Addr} {c : Nat} {l : List En} (h : Rd w 4 (.slice a l.length c) l.length (entsV l)) : EnR w a l := fun i e he => by
  obtain ⟨b, o, rfl, h0⟩ := h.cell (entsV_at l i e he 0 (by omega))
  refine ⟨b, o, rfl, by simpa using h0, ?_, ?_, ?_⟩
  · obtain ⟨_, _, e1, h1⟩ := h.cell (entsV_at l i e he 1 (by omega)); cases e1; rwa [← Nat.add_assoc] at h1
  · obtain ⟨_, _, e1, h1⟩ := h.cell (entsV_at l i e he 2 (by omega)); cases e1; rwa [← Nat.add_assoc] at h1
  · obtain ⟨_, _, e1, h1⟩ := h.cell (entsV_at l i e he 3 (by omega)); cases e1; rwa [← Nat.add_assoc] at h1
theorem ents_open {w : World} {a : Option Addr} : ∀ (n : Nat), (∀ i, i < n → ∃ b o, a = some ⟨b, o, none⟩ ∧ ∀ j k, ([.u64, .u64, .i64, .i64] : List IntKind)[j]? = some k → ∃ z, w.cell? ⟨b, o + i * ([.u64, .u64, .i64, .i64] : List IntKind).length + j, none⟩ = some (.int k z) ∧ (Lit.int k z).wf = true) →
    ∃ l : List En, l.length = n ∧ (∀ e ∈ l, e.ok) ∧ EnR w a l
  | 0, _ => ⟨[], rfl, fun e h => by simp at h, fun i e h => by simp at h⟩
  | n + 1, h => by
    obtain ⟨l, hl, hok, hr⟩ := ents_open n (fun i hi => h i (by omega))
    obtain ⟨b, o, ha, hc⟩ := h n (by omega)
    obtain ⟨z0, c0, f0⟩ := hc 0 .u64 rfl
    obtain ⟨z1, c1, f1⟩ := hc 1 .u64 rfl
    obtain ⟨z2, c2, f2⟩ := hc 2 .i64 rfl
    obtain ⟨z3, c3, f3⟩ := hc 3 .i64 rfl
    simp only [List.length_cons, List.length_nil, Nat.zero_add, Nat.reduceAdd, Nat.add_zero] at c0 c1 c2 c3
    have g0 := wf_u64_b f0
    have g1 := wf_u64_b f1
    have g2 := wf_i64_b f2
    have g3 := wf_i64_b f3
    refine ⟨l ++ [⟨z0.toNat, z1.toNat, z2, z3⟩], by simp [hl], fun e he => ?_, fun i e he => ?_⟩
    · rcases List.mem_append.1 he with he | he
      · exact hok e he
      · rw [List.mem_singleton] at he
        subst he
        exact ⟨by (show z0.toNat < _); omega, by (show z1.toNat < _); omega, g2, g3⟩
    · by_cases hi : i < l.length
      · rw [List.getElem?_append_left hi] at he
        exact hr i e he
      · rw [List.getElem?_append_right (by omega)] at he
        have h3 := (List.getElem?_eq_some_iff.1 he).1
        simp only [List.length_singleton] at h3
        have hin : i = n := by omega
        rw [hin, hl, Nat.sub_self] at he
        cases he
        subst hin
        refine ⟨b, o, ha, ?_, ?_, c2, c3⟩
        · rw [c0]; congr 2; (show z0 = ((z0.toNat : Nat) : Int)); omega
        · rw [c1]; congr 2; (show z1 = ((z1.toNat : Nat) : Int)); omega
set_option maxRecDepth 100000 in
set_option maxHeartbeats 2000000 in
theorem encode_any (w : World) (a : Option Addr) (c : Nat) (l : List En) (h : EnR w a l) (hok : ∀ e ∈ l, e.ok) (hl : l.length ≤ 1000000) :
    Calls Try.prog 7 #[.slice a l.length c] w fun e' w' => ∃ v, e' = .returned v ∧ Bx w w' v (encE l) := by
  have HA := Lib.hid h
  have HOK := Lib.hid hok
  clear h hok
  go_enter Try.func7, Try.ntmps7
  go_wp2
  go_loopw [3, 9] (fun bv iv wr => ∃ (i : Nat) (L : List Int), i ≤ l.length ∧ iv = .int .i64 i ∧ Hid (L = encE (l.take i)) ∧ Hid (Bx w wr bv L)) (fun _ iv _ => l.length - (intOf iv).toNat)
  case atStart => exact ⟨0, [], Nat.zero_le _, rfl, Lib.hid rfl, Lib.hid (Bx.nil w)⟩
  case round =>
    obtain ⟨i, L, hi, rfl, HL, HB⟩ := hrel
    rename World => wr
    obtain ⟨ab, cb, rfl, _⟩ := HB.out.1.form
    by_cases hd : i < l.length
    · have hdi : (i : Int) < (l.length : Int) := by omega
      have hge := List.getElem?_eq_getElem hd
      obtain ⟨e, he⟩ : ∃ e, l[i] = e := ⟨_, rfl⟩
      rw [he] at hge
      obtain ⟨b, o, rfl, c0, c1, c2, c3⟩ := (HA.out.kept HB.out.2.1) i e hge
      have HE : Hid e.ok := Lib.hid (HOK.out e (List.mem_of_getElem? hge))
      have HN : Hid (L ++ oneE e = encE (l.take (i + 1))) := Lib.hid (by
        rw [List.take_add_one, hge]
        show L ++ oneE e = encE (l.take i ++ [e])
        rw [encE_snoc, ← HL.out])
      have hln := encE_len (l.take i) (fun x hx => HOK.out x (List.mem_of_mem_take hx))
      rw [← HL.out, List.length_take] at hln
      have hlt := textE_len e HE.out
      clear hge he
      go_upto_region 5 with (fail)
      obtain ⟨w1, hw⟩ : ∃ W, World.alloc wr (.cells (enA e) 38) = W := ⟨_, rfl⟩
      have hck : Chg wr w1 nob := by rw [← hw]; exact (Chg.refl wr nob).alloc _
      have HX : Hid (Blk w1 wr.heap.size 38 (enA e)) := Lib.hid (by rw [← hw]; exact Blk.new wr _ _)
      rw [hw]
      replace HB := Lib.hid (HB.out.keptC hck)
      clear hw hck c0 c1 c2 c3
      have HLT : Hid (∀ k, blkOf (.slice ab L.length cb) k → k < w1.heap.size) := Lib.hid (fun k hk => HB.out.1.lt hk)
      have x0 := HX.out.cell 0
      have x1 := HX.out.cell 1
      have x2 := HX.out.cell 2
      have x3 := HX.out.cell 3
      simp only [List.getElem?_toArray, List.getElem?_cons_zero, List.getElem?_cons_succ] at x0 x1 x2 x3
      go_wp2_with fail
      go_at_call 15
      refine (text_any w1 e HE.out).mono ?_
      rintro e' w2 ⟨vt, rfl, hby, hck, hfr⟩
      have HT := Lib.hid hby
      have HFR := Lib.hid hfr
      replace HB := Lib.hid (HB.out.keptC hck)
      obtain ⟨at1, ct, rfl, _⟩ := hby.form
      clear hby hck hfr
      go_wp2_with fail
      go_at_call 17
      refine (crc_any w2 _ (textE e) HT.out (by omega)).mono ?_
      rintro e' w3 ⟨rfl, rfl⟩
      obtain ⟨cr, hcr⟩ : ∃ x, crcL (textE e) = x := ⟨_, rfl⟩
      have HCR := Lib.hid hcr
      rw [hcr]
      clear hcr
      go_wp2_with fail
      go_at_call 16
      refine (wfour_any w3 cr).mono ?_
      rintro e' w4 ⟨vf, rfl, hf⟩
      have HF := Lib.hid hf.1
      replace HB := Lib.hid (HB.out.keptC hf.2.1)
      replace HT := Lib.hid (HT.out.kept hf.2.1)
      obtain ⟨af, cf, rfl, _⟩ := hf.1.form
      clear hf
      go_wp2_with (at_builtin; refine wpList_bx rfl (.tmp 15) (.tmp 18) rfl _ L rfl HB.out _ (fourL cr) rfl HF.out (by (show L.length + 4 ≤ _); omega) ?_)
      intro v5 w5 hb5 hc5
      replace HT := Lib.hid (HT.out.keptF hc5 (fun k hk hk2 => by have h1 := HFR.out k hk; have h2 := HLT.out k hk2; omega))
      replace HB := Lib.hid hb5
      obtain ⟨a5, c5, rfl, _⟩ := hb5.1.form
      clear hb5 hc5
      go_wp2_with (at_builtin; refine wpList_bxr rfl (.tmp 19) (.tmp 20) rfl _ (L ++ fourL cr) rfl HB.out _ (textE e) rfl HT.out.rd HT.out.nil (by rw [List.length_append]; (show L.length + 4 + (textE e).length ≤ _); omega) ?_)
      intro v6 w6 hb6 hc6
      have HB6 : Hid (Bx w w6 v6 (L ++ oneE e)) := Lib.hid (by
        rw [oneE, HCR.out]
        first | exact hb6 | (rw [← List.append_assoc]; exact hb6))
      obtain ⟨a6, c6, rfl, _⟩ := hb6.1.form
      clear hb6 hc6 HB HT HF
      go_wp2
      go_roundw
      case rel => exact ⟨i + 1, L ++ oneE e, by omega, by go_num, HN, HB6⟩
      case measure => simp [intOf]; omega
    · have hdi : ¬ (i : Int) < (l.length : Int) := by omega
      have HL2 : Hid (L = encE l) := Lib.hid (by have h := HL.out; rwa [List.take_of_length_le (by omega)] at h)
      go_wp2
      go_ret
      exact ⟨_, rfl, by rw [← HL2.out]; exact HB.out⟩
set_option maxRecDepth 100000 in
set_option maxHeartbeats 2000000 in
theorem rencode_any (w : World) (a : Option Addr) (c : Nat) (l : List En) (h : EnR w a l) (hok : ∀ e ∈ l, e.ok) (hl : l.length ≤ 1000000) :
    Calls Try.prog 8 #[.slice a l.length c] w fun e' w' => ∃ v, e' = .returned v ∧ Bx w w' v (encE l) := by
  have HA := Lib.hid h
  have HOK := Lib.hid hok
  clear h hok
  go_enter Try.func8, Try.ntmps8
  go_wp2
  go_loopw [3, 4] (fun bv iv wr => ∃ (i : Nat) (L : List Int), i ≤ l.length ∧ iv = .int .i64 i ∧ Hid (L = encE (l.take i)) ∧ Hid (Bx w wr bv L)) (fun _ iv _ => l.length - (intOf iv).toNat)
  case atStart => exact ⟨0, [], Nat.zero_le _, rfl, Lib.hid rfl, Lib.hid (Bx.nil w)⟩
  case round =>
    obtain ⟨i, L, hi, rfl, HL, HB⟩ := hrel
    rename World => wr
    obtain ⟨ab, cb, rfl, _⟩ := HB.out.1.form
    by_cases hd : i < l.length
    · have hdi : (i : Int) < (l.length : Int) := by omega
      have hge := List.getElem?_eq_getElem hd
      obtain ⟨e, he⟩ : ∃ e, l[i] = e := ⟨_, rfl⟩
      rw [he] at hge
      obtain ⟨b, o, rfl, c0, c1, c2, c3⟩ := (HA.out.kept HB.out.2.1) i e hge
      have HE : Hid e.ok := Lib.hid (HOK.out e (List.mem_of_getElem? hge))
      have HN : Hid (L ++ oneE e = encE (l.take (i + 1))) := Lib.hid (by
        rw [List.take_add_one, hge]
        show L ++ oneE e = encE (l.take i ++ [e])
        rw [encE_snoc, ← HL.out])
      have hln := encE_len (l.take i) (fun x hx => HOK.out x (List.mem_of_mem_take hx))
      rw [← HL.out, List.length_take] at hln
      have hlt := textE_len e HE.out
      clear hge he
      have HLT : Hid (∀ k, blkOf (.slice ab L.length cb) k → k < wr.heap.size) := Lib.hid (fun k hk => HB.out.1.lt hk)
      go_wp2_with fail
      go_at_call 18
      refine (rone_any wr e HE.out).mono ?_
      rintro e' w2 ⟨vt, rfl, hby, hck, hfr⟩
      have HT := Lib.hid hby
      have HFR := Lib.hid hfr
      replace HB := Lib.hid (HB.out.keptC hck)
      obtain ⟨at1, ct, rfl, _⟩ := hby.form
      clear hby hck hfr
      go_wp2_with fail
      go_at_call 20
      refine (rcrc_any w2 _ (textE e) HT.out (by omega)).mono ?_
      rintro e' w3 ⟨rfl, rfl⟩
      obtain ⟨cr, hcr⟩ : ∃ x, crcL (textE e) = x := ⟨_, rfl⟩
      have HCR := Lib.hid hcr
      rw [hcr]
      clear hcr
      go_wp2_with fail
      go_at_call 19
      refine (four_any w3 cr).mono ?_
      rintro e' w4 ⟨vf, rfl, hf⟩
      have HF := Lib.hid hf.1
      replace HB := Lib.hid (HB.out.keptC hf.2.1)
      replace HT := Lib.hid (HT.out.kept hf.2.1)
      obtain ⟨af, cf, rfl, _⟩ := hf.1.form
      clear hf
      go_wp2_with (at_builtin; refine wpList_bx rfl (.tmp 17) (.tmp 20) rfl _ L rfl HB.out _ (fourL cr) rfl HF.out (by (show L.length + 4 ≤ _); omega) ?_)
      intro v5 w5 hb5 hc5
      replace HT := Lib.hid (HT.out.keptF hc5 (fun k hk hk2 => by have h1 := HFR.out k hk; have h2 := HLT.out k hk2; omega))
      replace HB := Lib.hid hb5
      obtain ⟨a5, c5, rfl, _⟩ := hb5.1.form
      clear hb5 hc5
      go_wp2_with (at_builtin; refine wpList_bxr rfl (.tmp 21) (.tmp 22) rfl _ (L ++ fourL cr) rfl HB.out _ (textE e) rfl HT.out.rd HT.out.nil (by rw [List.length_append]; (show L.length + 4 + (textE e).length ≤ _); omega) ?_)
      intro v6 w6 hb6 hc6
      have HB6 : Hid (Bx w w6 v6 (L ++ oneE e)) := Lib.hid (by
        rw [oneE, HCR.out]
        first | exact hb6 | (rw [← List.append_assoc]; exact hb6))
      obtain ⟨a6, c6, rfl, _⟩ := hb6.1.form
      clear hb6 hc6 HB HT HF
      go_wp2
      go_roundw
      case rel => exact ⟨i + 1, L ++ oneE e, by omega, by go_num, HN, HB6⟩
      case measure => simp [intOf]; omega
    · have hdi : ¬ (i : Int) < (l.length : Int) := by omega
      have HL2 : Hid (L = encE l) := Lib.hid (by have h := HL.out; rwa [List.take_of_length_le (by omega)] at h)
      go_wp2
      go_ret
      exact ⟨_, rfl, by rw [← HL2.out]; exact HB.out⟩
end Go.Proofs.Ytmekakecdgblaaa
