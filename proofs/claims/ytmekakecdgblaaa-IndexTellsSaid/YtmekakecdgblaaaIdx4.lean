
/-
  Chapter 19: entries compared, and handed to the document; the document's Find.
-/
import Derived.Test.YtmekakecdgblaaaIdx3
import Derived.Test.YtmekakecdgblaaaC
import Derived.Deep.QuietTactic
import Derived.BigQuiet
namespace Go.Proofs.Ytmekakecdgblaaa
open Go.RowKit
set_option linter.unusedVariables false
set_option linter.unusedSimpArgs false

/-- Are two entries alike? (Kept shut for the walk.) -/
def eqE (a b : En) : Bool := decide (a = b)
theorem en_guardR (op : BinOp) (x y : Operand) (xs ys : Array Value) (w : World) : (eqGuard op 45 x y (.agg xs) (.agg ys)).run Try.prog w = .ok () w := run_eqGuard_agg w op _ x y xs ys (by kernel_rfl)
theorem run_equal_enR (w : World) (n : Nat) (q t q' t' : Nat) (m a m' a' : Int) :
    (Op.equalIn (n + 4) 45 (.agg #[.int .u64 q, .int .u64 t, .int .i64 m, .int .i64 a]) (.agg #[.int .u64 q', .int .u64 t', .int .i64 m', .int .i64 a'])).run Try.prog w = .ok (decide ((⟨q, t, m, a⟩ : En) = ⟨q', t', m', a'⟩)) w := by
  rw [run_equalIn_agg w (n + 3) 45 _ _ (by kernel_rfl) (by kernel_rfl)]
  by_cases h1 : q = q'
  · by_cases h2 : t = t'
    · by_cases h3 : m = m'
      · by_cases h4 : a = a'
        · subst h1 h2 h3 h4
          go_simp
        · subst h1 h2 h3
          go_simp
      · subst h1 h2
        go_simp
    · subst h1
      have h2' : ¬ (t : Int) = (t' : Int) := by omega
      go_simp
  · have h1' : ¬ (q : Int) = (q' : Int) := by omega
    go_simp
theorem run_eql_enR (w : World) (q t q' t' : Nat) (m a m' a' : Int) :
    (binOp .eql 45 (.agg #[.int .u64 q, .int .u64 t, .int .i64 m, .int .i64 a]) (.agg #[.int .u64 q', .int .u64 t', .int .i64 m', .int .i64 a'])).run Try.prog w = .ok (.bool (eqE ⟨q, t, m, a⟩ ⟨q', t', m', a'⟩)) w := by
  rw [run_eql_struct, run_equal_enR w 9996]; rfl
theorem run_neq_enR (w : World) (q t q' t' : Nat) (m a m' a' : Int) :
    (binOp .neq 45 (.agg #[.int .u64 q, .int .u64 t, .int .i64 m, .int .i64 a]) (.agg #[.int .u64 q', .int .u64 t', .int .i64 m', .int .i64 a'])).run Try.prog w = .ok (.bool (!eqE ⟨q, t, m, a⟩ ⟨q', t', m', a'⟩)) w := by
  rw [run_neq_struct, run_equal_enR w 9996]; rfl
theorem en_guardI (op : BinOp) (x y : Operand) (xs ys : Array Value) (w : World) : (eqGuard op 38 x y (.agg xs) (.agg ys)).run Try.prog w = .ok () w := run_eqGuard_agg w op _ x y xs ys (by kernel_rfl)
theorem run_equal_enI (w : World) (n : Nat) (q t q' t' : Nat) (m a m' a' : Int) :
    (Op.equalIn (n + 4) 38 (.agg #[.int .u64 q, .int .u64 t, .int .i64 m, .int .i64 a]) (.agg #[.int .u64 q', .int .u64 t', .int .i64 m', .int .i64 a'])).run Try.prog w = .ok (decide ((⟨q, t, m, a⟩ : En) = ⟨q', t', m', a'⟩)) w := by
  rw [run_equalIn_agg w (n + 3) 38 _ _ (by kernel_rfl) (by kernel_rfl)]
  by_cases h1 : q = q'
  · by_cases h2 : t = t'
    · by_cases h3 : m = m'
      · by_cases h4 : a = a'
        · subst h1 h2 h3 h4
          go_simp
        · subst h1 h2 h3
          go_simp
      · subst h1 h2
        go_simp
    · subst h1
      have h2' : ¬ (t : Int) = (t' : Int) := by omega
      go_simp
  · have h1' : ¬ (q : Int) = (q' : Int) := by omega
    go_simp
theorem run_eql_enI (w : World) (q t q' t' : Nat) (m a m' a' : Int) :
    (binOp .eql 38 (.agg #[.int .u64 q, .int .u64 t, .int .i64 m, .int .i64 a]) (.agg #[.int .u64 q', .int .u64 t', .int .i64 m', .int .i64 a'])).run Try.prog w = .ok (.bool (eqE ⟨q, t, m, a⟩ ⟨q', t', m', a'⟩)) w := by
  rw [run_eql_struct, run_equal_enI w 9996]; rfl
theorem run_neq_enI (w : World) (q t q' t' : Nat) (m a m' a' : Int) :
    (binOp .neq 38 (.agg #[.int .u64 q, .int .u64 t, .int .i64 m, .int .i64 a]) (.agg #[.int .u64 q', .int .u64 t', .int .i64 m', .int .i64 a'])).run Try.prog w = .ok (.bool (!eqE ⟨q, t, m, a⟩ ⟨q', t', m', a'⟩)) w := by
  rw [run_neq_struct, run_equal_enI w 9996]; rfl
section
attribute [local go_sem ↓] en_guardR run_eql_enR run_neq_enR
set_option maxRecDepth 100000 in
set_option maxHeartbeats 2000000 in
theorem sameents_any (w : World) (a b : Option Addr) (c d : Nat) (s t : List En) (ha : EnR w a s) (hb : EnR w b t) (hl0 : s.length ≤ 1000000) (hl1 : t.length ≤ 1000000) :
    Calls Try.prog 10 #[.slice a s.length c, .slice b t.length d] w fun e w' => e = .returned (.bool (decide (s = t))) ∧ Chg w w' nob := by
  have HA := Lib.hid ha
  have HB := Lib.hid hb
  clear ha hb
  obtain ⟨r, hr⟩ : ∃ r, decide (s = t) = r := ⟨_, rfl⟩
  have HR := Lib.hid hr
  rw [hr]
  clear hr
  by_cases hl : s.length = t.length
  · obtain ⟨n, hn⟩ : ∃ n, s.length = n := ⟨_, rfl⟩
    have HN := Lib.hid hn
    have HM : Hid (t.length = n) := Lib.hid (by omega)
    rw [hn] at hl0 ⊢
    rw [← hl, hn] at hl1 ⊢
    clear hl hn
    have h0 : (0 : Int) ≤ (n : Int) := by omega
    go_enter Try.func10, Try.ntmps10
    go_wp2_with fail
    go_loopw [5] (fun iv wr => ∃ i : Nat, i ≤ n ∧ iv = .int .i64 i ∧ Hid (s.take i = t.take i) ∧ Hid (Chg w wr nob)) (fun iv _ => n - (intOf iv).toNat)
    case atStart => exact ⟨0, Nat.zero_le _, rfl, Lib.hid rfl, Lib.hid (Chg.refl _ _)⟩
    case round =>
      obtain ⟨i, hi, rfl, HT, HC⟩ := hrel
      by_cases hin : i < n
      · have hii : (i : Int) < (n : Int) := by omega
        have hi0 : (0 : Int) ≤ (i : Int) := by omega
        obtain ⟨x, hx⟩ : ∃ x, s[i]? = some x := ⟨s[i]'(by rw [HN.out]; omega), List.getElem?_eq_getElem _⟩
        obtain ⟨y, hy⟩ : ∃ y, t[i]? = some y := ⟨t[i]'(by rw [HM.out]; omega), List.getElem?_eq_getElem _⟩
        obtain ⟨ga, oa, rfl, a0, a1, a2, a3⟩ := (HA.out.kept HC.out) i x hx
        obtain ⟨gb, ob, rfl, b0, b1, b2, b3⟩ := (HB.out.kept HC.out) i y hy
        obtain ⟨q, hq⟩ : ∃ q, eqE x y = q := ⟨_, rfl⟩
        have HX := Lib.hid hx
        have HY := Lib.hid hy
        have HQ : Hid (q = true ↔ x = y) := Lib.hid (by rw [← hq]; simp [eqE])
        obtain ⟨x1, x2, x3, x4⟩ := x
        obtain ⟨y1, y2, y3, y4⟩ := y
        simp only at a0 a1 a2 a3 b0 b1 b2 b3
        clear hx hy
        cases q with
        | true =>
          have HXY := Lib.hid (HQ.out.1 rfl)
          go_wp2_with fail
          go_quiet (fail)
          go_wp2
          go_roundw
          case rel => exact ⟨i + 1, by omega, by go_num, Lib.hid (by rw [List.take_add_one, List.take_add_one, HT.out, HX.out, HY.out, HXY.out]), Lib.hid (HC.out.drewN _)⟩
          case measure => simp [intOf]; omega
        | false =>
          have hf : r = false := by
            rw [← HR.out]
            refine decide_eq_false fun e => ?_
            rw [e] at HX
            have := Option.some.inj (HX.out.symm.trans HY.out)
            have h2 := HQ.out.2 this
            cases h2
          go_wp2_with fail
          go_quiet (fail)
          go_wp2
          go_ret
          exact ⟨by first | rfl | (rw [hf]; rfl), HC.out.drewN _⟩
      · have hii : ¬ (i : Int) < (n : Int) := by omega
        have hf : r = true := by
          rw [← HR.out]
          refine decide_eq_true ?_
          have h := HT.out
          rwa [List.take_of_length_le (by rw [HN.out]; omega), List.take_of_length_le (by rw [HM.out]; omega)] at h
        go_wp2
        go_ret
        exact ⟨by first | rfl | (rw [hf]; rfl), HC.out⟩
  · have hli : ((s.length : Int) != (t.length : Int)) = true := by simp; omega
    have hf : r = false := by
      rw [← HR.out]
      exact decide_eq_false fun e => hl (by rw [e])
    go_enter Try.func10, Try.ntmps10
    go_wp2
    go_ret
    exact ⟨by first | rfl | (rw [hf]; rfl), Chg.refl _ _⟩
end
set_option maxRecDepth 100000 in
set_option maxHeartbeats 2000000 in
theorem eplain_any (w : World) (a : Option Addr) (c : Nat) (l : List En) (h : EnR w a l) (hl : l.length ≤ 1000000) :
    Calls Try.prog 9 #[.slice a l.length c] w fun e' w' => ∃ v, e' = .returned v ∧ NwE 45 w w' v l := by
  have HA := Lib.hid h
  obtain ⟨n, hn⟩ : ∃ n, l.length = n := ⟨_, rfl⟩
  have HLN := Lib.hid hn
  rw [hn] at hl ⊢
  clear h hn
  go_enter Try.func9, Try.ntmps9
  go_wp2_with fail
  go_loopw [3, 4] (fun ov iv wr => ∃ (i : Nat) (acc : List En), i ≤ n ∧ iv = .int .i64 i ∧ acc.length = i ∧ Hid (acc = l.take i) ∧ Hid (NwE 45 w wr ov acc)) (fun _ iv _ => n - (intOf iv).toNat)
  case atStart => exact ⟨0, [], Nat.zero_le _, rfl, rfl, Lib.hid rfl, Lib.hid (NwE.nil _ w)⟩
  case round =>
    obtain ⟨i, acc, hi, rfl, hal, HAC, HN⟩ := hrel
    rename World => wr
    have HAL := Lib.hid hal
    obtain ⟨av, cv, rfl⟩ := HN.out.form
    rw [hal] at HN ⊢
    clear hal
    by_cases hd : i < n
    · have hii : (i : Int) < (n : Int) := by omega
      have hi0 : (0 : Int) ≤ (i : Int) := by omega
      obtain ⟨e, he⟩ : ∃ e, l[i]? = some e := ⟨l[i]'(by rw [HLN.out]; omega), List.getElem?_eq_getElem _⟩
      have HE := Lib.hid he
      obtain ⟨b, o, rfl, c0, c1, c2, c3⟩ := (HA.out.kept HN.out.2.1) i e he
      clear he
      go_upto_region 5 with (fail)
      refine wp_one [5, 10, 15, 20] [22, 23] [] [0, 1, 2, 3, 4, 5, 6, 7, 8, 9, 10, 11, 12, 13, 14, 15, 16, 17, 18, 19, 20, 21, 22, 23, 24] rfl (by kernel_rfl) (fun _ _ _ _ _ h => h) ?_; simp only [List.map_cons, List.map_nil, List.getElem?_toArray, List.getElem?_cons_zero, List.getElem?_cons_succ]
      obtain ⟨wD, hw⟩ : ∃ W, World.drew wr = W := ⟨_, rfl⟩
      rw [hw]
      have hck : Chg wr wD nob := by rw [← hw]; exact (Chg.refl wr nob).drew
      replace c0 := hck.cell c0 id
      replace c1 := hck.cell c1 id
      replace c2 := hck.cell c2 id
      replace c3 := hck.cell c3 id
      replace HN := Lib.hid (HN.out.kept hck)
      clear hw hck
      (repeat (first | (apply can0; (· rfl); (· rfl); (· (intro w'; first | (go_simp; with_reducible rfl) | (go_simp; done))); simp only [Act.put, List.setIfInBounds_toArray, List.set_cons_zero, List.set_cons_succ]) | (apply can1; (· rfl); (· rfl); (· (first | (go_simp; with_reducible rfl) | (go_simp; done))); simp only [Act.put, List.setIfInBounds_toArray, List.set_cons_zero, List.set_cons_succ]) | (apply canN; (· rfl); (· rfl); simp only [Act.put, List.setIfInBounds_toArray, List.set_cons_zero, List.set_cons_succ]) | (apply canN1; (· rfl); (· rfl); simp only [Act.put, List.setIfInBounds_toArray, List.set_cons_zero, List.set_cons_succ]) | (apply can0; (· rfl); (· (go_simp; done)); (· (intro w'; first | (go_simp; with_reducible rfl) | (go_simp; done))); simp only [Act.put, List.setIfInBounds_toArray, List.set_cons_zero, List.set_cons_succ]) | (apply can1; (· rfl); (· (go_simp; done)); (· (first | (go_simp; with_reducible rfl) | (go_simp; done))); simp only [Act.put, List.setIfInBounds_toArray, List.set_cons_zero, List.set_cons_succ]) | (apply canN; (· rfl); (· (go_simp; done)); simp only [Act.put, List.setIfInBounds_toArray, List.set_cons_zero, List.set_cons_succ]) | (apply canN1; (· rfl); (· (go_simp; done)); simp only [Act.put, List.setIfInBounds_toArray, List.set_cons_zero, List.set_cons_succ])))
      refine canW rfl [] rfl (fun K hK => ?_)
      go_simp
      (refine hK _ _ (fun u hu => by cases hu) ?_; clear hK K; try simp only [Act.put, List.setIfInBounds_toArray, List.set_cons_zero, List.set_cons_succ])
      (repeat (first | (apply can0; (· rfl); (· rfl); (· (intro w'; first | (go_simp; with_reducible rfl) | (go_simp; done))); simp only [Act.put, List.setIfInBounds_toArray, List.set_cons_zero, List.set_cons_succ]) | (apply can1; (· rfl); (· rfl); (· (first | (go_simp; with_reducible rfl) | (go_simp; done))); simp only [Act.put, List.setIfInBounds_toArray, List.set_cons_zero, List.set_cons_succ]) | (apply canN; (· rfl); (· rfl); simp only [Act.put, List.setIfInBounds_toArray, List.set_cons_zero, List.set_cons_succ]) | (apply canN1; (· rfl); (· rfl); simp only [Act.put, List.setIfInBounds_toArray, List.set_cons_zero, List.set_cons_succ]) | (apply can0; (· rfl); (· (go_simp; done)); (· (intro w'; first | (go_simp; with_reducible rfl) | (go_simp; done))); simp only [Act.put, List.setIfInBounds_toArray, List.set_cons_zero, List.set_cons_succ]) | (apply can1; (· rfl); (· (go_simp; done)); (· (first | (go_simp; with_reducible rfl) | (go_simp; done))); simp only [Act.put, List.setIfInBounds_toArray, List.set_cons_zero, List.set_cons_succ]) | (apply canN; (· rfl); (· (go_simp; done)); simp only [Act.put, List.setIfInBounds_toArray, List.set_cons_zero, List.set_cons_succ]) | (apply canN1; (· rfl); (· (go_simp; done)); simp only [Act.put, List.setIfInBounds_toArray, List.set_cons_zero, List.set_cons_succ])))
      refine canW rfl [] rfl (fun K hK => ?_)
      refine wp_push _ _ 29 rfl 45 (.agg #[.int .u64 0, .int .u64 0, .int .i64 0, .int .i64 0]) 4 32 i_entryR u_entriesR rfl (by decide) (.slice av i cv) i (entsV acc) rfl (by have h := HN.out.1; rwa [HAL.out] at h) 1 1 rfl rfl rfl (by unfold maxLen; omega) (by omega) ?_
      intro v1 w1 ho hch hf
      have HN2 : Hid (NwE 45 w w1 v1 (acc ++ [e])) := Lib.hid (by
        have hh : NwE 45 w wD (.slice av acc.length cv) acc := by rw [HAL.out]; exact HN.out
        exact hh.push (by rw [HAL.out]; exact ho) (hch.mono (fun k _ hk => blk_same hk)) (fun k hk => (hf k hk).imp (fun h => blk_same h) id))
      have HA2 : Hid (acc ++ [e] = l.take (i + 1)) := Lib.hid (by rw [List.take_add_one, HE.out, HAC.out]; rfl)
      have hl2 : (acc ++ [e]).length = i + 1 := by rw [List.length_append, HAL.out]; rfl
      obtain ⟨a1, d1, rfl⟩ := HN2.out.form
      have HL2 := Lib.hid hl2
      rw [hl2]
      clear ho hch hf hl2
      (refine hK _ _ (fun u hu => by cases hu) ?_; clear hK K; try simp only [Act.put, List.setIfInBounds_toArray, List.set_cons_zero, List.set_cons_succ])
      (repeat (first | (apply can0; (· rfl); (· rfl); (· (intro w'; first | (go_simp; with_reducible rfl) | (go_simp; done))); simp only [Act.put, List.setIfInBounds_toArray, List.set_cons_zero, List.set_cons_succ]) | (apply can1; (· rfl); (· rfl); (· (first | (go_simp; with_reducible rfl) | (go_simp; done))); simp only [Act.put, List.setIfInBounds_toArray, List.set_cons_zero, List.set_cons_succ]) | (apply canN; (· rfl); (· rfl); simp only [Act.put, List.setIfInBounds_toArray, List.set_cons_zero, List.set_cons_succ]) | (apply canN1; (· rfl); (· rfl); simp only [Act.put, List.setIfInBounds_toArray, List.set_cons_zero, List.set_cons_succ]) | (apply can0; (· rfl); (· (go_simp; done)); (· (intro w'; first | (go_simp; with_reducible rfl) | (go_simp; done))); simp only [Act.put, List.setIfInBounds_toArray, List.set_cons_zero, List.set_cons_succ]) | (apply can1; (· rfl); (· (go_simp; done)); (· (first | (go_simp; with_reducible rfl) | (go_simp; done))); simp only [Act.put, List.setIfInBounds_toArray, List.set_cons_zero, List.set_cons_succ]) | (apply canN; (· rfl); (· (go_simp; done)); simp only [Act.put, List.setIfInBounds_toArray, List.set_cons_zero, List.set_cons_succ]) | (apply canN1; (· rfl); (· (go_simp; done)); simp only [Act.put, List.setIfInBounds_toArray, List.set_cons_zero, List.set_cons_succ])))
      refine canE ?_
      go_wp2
      go_roundw
      case rel => exact ⟨i + 1, acc ++ [e], by omega, by go_num, HL2.out, HA2, by rw [HL2.out] at HN2; exact HN2⟩
      case measure => simp [intOf]; omega
    · have hii : ¬ (i : Int) < (n : Int) := by omega
      have HF : Hid (acc = l) := Lib.hid (by rw [HAC.out, List.take_of_length_le (by rw [HLN.out]; omega)])
      go_wp2
      go_ret
      exact ⟨_, rfl, by rw [← HF.out]; exact HN.out⟩
end Go.Proofs.Ytmekakecdgblaaa
