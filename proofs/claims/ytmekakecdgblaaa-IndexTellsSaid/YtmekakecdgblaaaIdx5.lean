
/-
  Chapter 19: the document's Find; first.
-/
import Derived.Test.YtmekakecdgblaaaIdxFind
namespace Go.Proofs.Ytmekakecdgblaaa
open Go.RowKit
set_option linter.unusedVariables false
set_option linter.unusedSimpArgs false

set_option maxRecDepth 100000 in
set_option maxHeartbeats 2000000 in
theorem rfind_any (w : World) (a : Option Addr) (c : Nat) (l : List En) (h : EnR w a l) (hl : l.length ≤ 1000000) (t : Nat) :
    Calls Try.prog 14 #[.slice a l.length c, .int .u64 t] w fun e w' => e = .returned (.int .i64 (findN l t l.length)) ∧ w = w' := by
  have HA := Lib.hid h
  obtain ⟨n, hn⟩ : ∃ n, l.length = n := ⟨_, rfl⟩
  have HN := Lib.hid hn
  rw [hn] at hl ⊢
  clear h hn
  go_enter Try.func14, Try.ntmps14
  go_wp2
  go_loopw [5, 6] (fun av iv wr => ∃ (i : Nat) (k : Int), i ≤ n ∧ iv = .int .i64 i ∧ av = .int .i64 k ∧ Hid (k = findN l t i) ∧ w = wr) (fun _ iv _ => n - (intOf iv).toNat)
  case atStart => exact ⟨0, -1, Nat.zero_le _, rfl, rfl, Lib.hid rfl, by first | rfl | trivial⟩
  case round =>
    obtain ⟨i, k, hi, rfl, rfl, HK, rfl⟩ := hrel
    by_cases hd : i < n
    · have hii : (i : Int) < (n : Int) := by omega
      have hi0 : (0 : Int) ≤ (i : Int) := by omega
      obtain ⟨e, he⟩ : ∃ e, l[i]? = some e := ⟨l[i]'(by rw [HN.out]; omega), List.getElem?_eq_getElem _⟩
      have HG : Hid (l.getD i zEn = e) := Lib.hid (by rw [List.getD_eq_getElem?_getD, he]; rfl)
      obtain ⟨b, o, rfl, c0, c1, c2, c3⟩ := HA.out i e he
      clear he
      by_cases hle : e.t ≤ t
      · have hli : (e.t : Int) ≤ (t : Int) := by omega
        have HF : Hid ((i : Int) = findN l t (i + 1)) := Lib.hid (by rw [findN, HG.out, if_pos hle])
        go_wp2
        go_roundw
        case rel => exact ⟨i + 1, i, by omega, by go_num, rfl, HF, by first | rfl | trivial⟩
        case measure => simp [intOf]; omega
      · have hli : ¬ (e.t : Int) ≤ (t : Int) := by omega
        have HF : Hid (k = findN l t (i + 1)) := Lib.hid (by rw [findN, HG.out, if_neg hle]; exact HK.out)
        go_wp2
        go_roundw
        case rel => exact ⟨i + 1, k, by omega, by go_num, rfl, HF, by first | rfl | trivial⟩
        case measure => simp [intOf]; omega
    · have hii : ¬ (i : Int) < (n : Int) := by omega
      obtain rfl : i = n := by omega
      go_wp2
      go_ret
      exact ⟨by rw [← HK.out]; rfl, rfl⟩
theorem decE_len : ∀ (f : Nat) (l : List Int), (decE f l).length ≤ f
  | 0, _ => Nat.le_refl _
  | f + 1, l => by
    rw [decE]
    split
    · exact Nat.zero_le _
    · rename_i x _
      have := decE_len f x.2
      simp only [List.length_cons]
      omega
section
attribute [local go_sem ↓] en_guardI run_eql_enI run_neq_enI
set_option maxRecDepth 100000 in
set_option maxHeartbeats 4000000 in
theorem ifirst_any (w : World) : Calls Try.prog 5 #[] w fun e w' => e = .returned (.bool true) ∧ Chg w w' nob := by
  obtain ⟨e0, he0⟩ : ∃ e : En, e = ⟨3, 5, 1, 20⟩ := ⟨_, rfl⟩
  have HE0 := Lib.hid he0
  have HSM : Hid (e0.small ∧ e0.ok) := Lib.hid (by
    rw [he0]
    exact ⟨⟨by decide, by decide, ⟨by decide, by decide⟩, by decide, by decide⟩, by decide, by decide, ⟨by decide, by decide⟩, by decide, by decide⟩)
  have HF1 : Hid (findN [] 5 0 = -1) := Lib.hid rfl
  have HF2 : Hid (findN [e0] 5 1 = 0) := Lib.hid (by rw [he0]; rfl)
  have HF3 : Hid (findN [e0] 4 1 = -1) := Lib.hid (by rw [he0]; rfl)
  have hee : eqE ⟨e0.q, e0.t, e0.n, e0.a⟩ ⟨e0.q, e0.t, e0.n, e0.a⟩ = true := by simp [eqE]
  have HD1 : Hid (decE (encE [e0]).length (encE [e0]) = [e0]) := Lib.hid (by
    have h := decE_there [e0] ((encE [e0]).length - 1) [] (fun e he => by rw [List.mem_singleton] at he; subst he; exact HSM.out.1)
    rw [List.append_nil, decE_nil, List.append_nil] at h
    rwa [show [e0].length + ((encE [e0]).length - 1) = (encE [e0]).length by
      have : 1 ≤ (encE [e0]).length := by simp [encE, oneE, fourL]
      simp only [List.length_singleton]; omega] at h)
  have HLE : Hid ((encE [e0]).length ≤ 44) := Lib.hid (by
    have := encE_len [e0] (fun e he => by rw [List.mem_singleton] at he; subst he; exact HSM.out.2)
    simpa using this)
  go_enter Try.func5, Try.ntmps5
  go_upto_region 2 with (fail)
  obtain ⟨w1, hw⟩ : ∃ W, World.alloc w (.cells #[.int .u64 3, .int .u64 5, .int .i64 1, .int .i64 20] 38) = W := ⟨_, rfl⟩
  have HC : Hid (Chg w w1 nob) := Lib.hid (by rw [← hw]; exact (Chg.refl w nob).alloc _)
  have HX : Hid (Blk w1 w.heap.size 38 (enA e0)) := Lib.hid (by rw [← hw, he0]; exact Blk.new w _ _)
  rw [hw]
  clear hw he0
  obtain ⟨ix, hix⟩ : ∃ i, w.heap.size = i := ⟨_, rfl⟩
  rw [hix] at HX ⊢
  clear hix
  have x0 := HX.out.cell 0
  have x1 := HX.out.cell 1
  have x2 := HX.out.cell 2
  have x3 := HX.out.cell 3
  simp only [List.getElem?_toArray, List.getElem?_cons_zero, List.getElem?_cons_succ] at x0 x1 x2 x3
  have HR0 : Hid (EnR (w1.alloc (.cells (enA e0) 38)) (some ⟨w1.heap.size, 0, none⟩) [e0]) := Lib.hid (EnR.ofRd (c := 1) (Rd.made w1 38 (enA e0) (size := 4) (n := 1) (c := 1) rfl (Nat.le_refl _)))
  go_wp2_with fail
  go_at_call 7
  refine (encode_any _ (some ⟨w1.heap.size, 0, none⟩) 1 [e0] HR0.out (fun e he => by rw [List.mem_singleton] at he; subst he; exact HSM.out.2) (by simp)).mono ?_
  rintro e' w2 ⟨v2, rfl, hb⟩
  have HB := Lib.hid (By.ofBx hb (encE_byte _))
  have hck : Chg w1 w2 nob := ((Chg.refl w1 nob).alloc _).trans hb.2.1 (fun _ _ h => h)
  replace HX := Lib.hid (HX.out.kept hck id)
  replace HC := Lib.hid (HC.out.trans hck (fun _ _ h => h))
  clear hb hck x0 x1 x2 x3 HR0
  go_wp2_with fail
  go_at_call 11
  refine (decode_any w2 v2 (encE [e0]) HB.out (by have := HLE.out; omega)).mono ?_
  rw [HD1.out]
  rintro e' w3 ⟨v3, rfl, hn⟩
  obtain ⟨a3, c3, rfl⟩ := hn.form
  have HR := Lib.hid hn.enr
  replace HX := Lib.hid (HX.out.kept hn.2.1 id)
  replace HC := Lib.hid (HC.out.trans hn.2.1 (fun _ _ h => h))
  clear hn
  simp only [List.length_singleton]
  go_upto_region 3 with (fail)
  refine wp_one [6, 7] [11, 16, 21] [] [0, 1, 2, 3, 4, 5, 6, 7, 8, 9, 10, 11, 12, 13, 14, 15, 16, 17, 18, 19, 20, 21, 22, 23, 24] rfl (by kernel_rfl) (fun _ _ _ _ _ h => h) ?_; simp only [List.map_cons, List.map_nil, List.getElem?_toArray, List.getElem?_cons_zero, List.getElem?_cons_succ]
  obtain ⟨w4, hw⟩ : ∃ W, World.drew w3 = W := ⟨_, rfl⟩
  rw [hw]
  have hck : Chg w3 w4 nob := by rw [← hw]; exact (Chg.refl w3 nob).drew
  replace HX := Lib.hid (HX.out.kept hck id)
  replace HR := Lib.hid (HR.out.kept hck)
  replace HC := Lib.hid (HC.out.trans hck (fun _ _ h => h))
  clear hw hck
  have x0 := HX.out.cell 0
  have x1 := HX.out.cell 1
  have x2 := HX.out.cell 2
  have x3 := HX.out.cell 3
  simp only [List.getElem?_toArray, List.getElem?_cons_zero, List.getElem?_cons_succ] at x0 x1 x2 x3
  obtain ⟨b, o, rfl, c0, c1, c2, c3'⟩ := HR.out 0 e0 rfl
  simp only [Nat.zero_mul, Nat.add_zero] at c0 c1 c2 c3'
  (repeat (first | (apply can0; (· rfl); (· rfl); (· (intro w'; first | (go_simp; with_reducible rfl) | (go_simp; done))); simp only [Act.put, List.setIfInBounds_toArray, List.set_cons_zero, List.set_cons_succ]) | (apply can1; (· rfl); (· rfl); (· (first | (go_simp; with_reducible rfl) | (go_simp; done))); simp only [Act.put, List.setIfInBounds_toArray, List.set_cons_zero, List.set_cons_succ]) | (apply canN; (· rfl); (· rfl); simp only [Act.put, List.setIfInBounds_toArray, List.set_cons_zero, List.set_cons_succ]) | (apply canN1; (· rfl); (· rfl); simp only [Act.put, List.setIfInBounds_toArray, List.set_cons_zero, List.set_cons_succ]) | (apply can0; (· rfl); (· (go_simp; done)); (· (intro w'; first | (go_simp; with_reducible rfl) | (go_simp; done))); simp only [Act.put, List.setIfInBounds_toArray, List.set_cons_zero, List.set_cons_succ]) | (apply can1; (· rfl); (· (go_simp; done)); (· (first | (go_simp; with_reducible rfl) | (go_simp; done))); simp only [Act.put, List.setIfInBounds_toArray, List.set_cons_zero, List.set_cons_succ]) | (apply canN; (· rfl); (· (go_simp; done)); simp only [Act.put, List.setIfInBounds_toArray, List.set_cons_zero, List.set_cons_succ]) | (apply canN1; (· rfl); (· (go_simp; done)); simp only [Act.put, List.setIfInBounds_toArray, List.set_cons_zero, List.set_cons_succ])))
  refine canW rfl [] rfl (fun K hK => ?_)
  go_simp
  go_at_call 13
  have h := find_any w4 none 0 [] (fun i e h => by simp at h) (by simp) 5
  rw [show findN [] 5 ([] : List En).length = -1 from HF1.out] at h
  refine h.mono ?_
  rintro e' w5 ⟨rfl, hck⟩
  replace HR := Lib.hid (HR.out.kept hck)
  replace HC := Lib.hid (HC.out.trans hck (fun _ _ h => h))
  clear hck h
  (refine hK _ _ (fun u hu => by cases hu) ?_; clear hK K; try simp only [Act.put, List.setIfInBounds_toArray, List.set_cons_zero, List.set_cons_succ])
  (repeat (first | (apply can0; (· rfl); (· rfl); (· (intro w'; first | (go_simp; with_reducible rfl) | (go_simp; done))); simp only [Act.put, List.setIfInBounds_toArray, List.set_cons_zero, List.set_cons_succ]) | (apply can1; (· rfl); (· rfl); (· (first | (go_simp; with_reducible rfl) | (go_simp; done))); simp only [Act.put, List.setIfInBounds_toArray, List.set_cons_zero, List.set_cons_succ]) | (apply canN; (· rfl); (· rfl); simp only [Act.put, List.setIfInBounds_toArray, List.set_cons_zero, List.set_cons_succ]) | (apply canN1; (· rfl); (· rfl); simp only [Act.put, List.setIfInBounds_toArray, List.set_cons_zero, List.set_cons_succ]) | (apply can0; (· rfl); (· (go_simp; done)); (· (intro w'; first | (go_simp; with_reducible rfl) | (go_simp; done))); simp only [Act.put, List.setIfInBounds_toArray, List.set_cons_zero, List.set_cons_succ]) | (apply can1; (· rfl); (· (go_simp; done)); (· (first | (go_simp; with_reducible rfl) | (go_simp; done))); simp only [Act.put, List.setIfInBounds_toArray, List.set_cons_zero, List.set_cons_succ]) | (apply canN; (· rfl); (· (go_simp; done)); simp only [Act.put, List.setIfInBounds_toArray, List.set_cons_zero, List.set_cons_succ]) | (apply canN1; (· rfl); (· (go_simp; done)); simp only [Act.put, List.setIfInBounds_toArray, List.set_cons_zero, List.set_cons_succ])))
  refine canW rfl [] rfl (fun K hK => ?_)
  go_simp
  go_at_call 13
  have h := find_any w5 _ c3 [e0] HR.out (by simp) 5
  rw [show findN [e0] 5 [e0].length = 0 from HF2.out] at h
  refine h.mono ?_
  rintro e' w6 ⟨rfl, hck⟩
  replace HR := Lib.hid (HR.out.kept hck)
  replace HC := Lib.hid (HC.out.trans hck (fun _ _ h => h))
  clear hck h
  (refine hK _ _ (fun u hu => by cases hu) ?_; clear hK K; try simp only [Act.put, List.setIfInBounds_toArray, List.set_cons_zero, List.set_cons_succ])
  (repeat (first | (apply can0; (· rfl); (· rfl); (· (intro w'; first | (go_simp; with_reducible rfl) | (go_simp; done))); simp only [Act.put, List.setIfInBounds_toArray, List.set_cons_zero, List.set_cons_succ]) | (apply can1; (· rfl); (· rfl); (· (first | (go_simp; with_reducible rfl) | (go_simp; done))); simp only [Act.put, List.setIfInBounds_toArray, List.set_cons_zero, List.set_cons_succ]) | (apply canN; (· rfl); (· rfl); simp only [Act.put, List.setIfInBounds_toArray, List.set_cons_zero, List.set_cons_succ]) | (apply canN1; (· rfl); (· rfl); simp only [Act.put, List.setIfInBounds_toArray, List.set_cons_zero, List.set_cons_succ]) | (apply can0; (· rfl); (· (go_simp; done)); (· (intro w'; first | (go_simp; with_reducible rfl) | (go_simp; done))); simp only [Act.put, List.setIfInBounds_toArray, List.set_cons_zero, List.set_cons_succ]) | (apply can1; (· rfl); (· (go_simp; done)); (· (first | (go_simp; with_reducible rfl) | (go_simp; done))); simp only [Act.put, List.setIfInBounds_toArray, List.set_cons_zero, List.set_cons_succ]) | (apply canN; (· rfl); (· (go_simp; done)); simp only [Act.put, List.setIfInBounds_toArray, List.set_cons_zero, List.set_cons_succ]) | (apply canN1; (· rfl); (· (go_simp; done)); simp only [Act.put, List.setIfInBounds_toArray, List.set_cons_zero, List.set_cons_succ])))
  refine canW rfl [] rfl (fun K hK => ?_)
  go_simp
  go_at_call 13
  have h := find_any w6 _ c3 [e0] HR.out (by simp) 4
  rw [show findN [e0] 4 [e0].length = -1 from HF3.out] at h
  refine h.mono ?_
  rintro e' w7 ⟨rfl, hck⟩
  replace HC := Lib.hid (HC.out.trans hck (fun _ _ h => h))
  clear hck h
  (refine hK _ _ (fun u hu => by cases hu) ?_; clear hK K; try simp only [Act.put, List.setIfInBounds_toArray, List.set_cons_zero, List.set_cons_succ])
  (repeat (first | (apply can0; (· rfl); (· rfl); (· (intro w'; first | (go_simp; with_reducible rfl) | (go_simp; done))); simp only [Act.put, List.setIfInBounds_toArray, List.set_cons_zero, List.set_cons_succ]) | (apply can1; (· rfl); (· rfl); (· (first | (go_simp; with_reducible rfl) | (go_simp; done))); simp only [Act.put, List.setIfInBounds_toArray, List.set_cons_zero, List.set_cons_succ]) | (apply canN; (· rfl); (· rfl); simp only [Act.put, List.setIfInBounds_toArray, List.set_cons_zero, List.set_cons_succ]) | (apply canN1; (· rfl); (· rfl); simp only [Act.put, List.setIfInBounds_toArray, List.set_cons_zero, List.set_cons_succ]) | (apply can0; (· rfl); (· (go_simp; done)); (· (intro w'; first | (go_simp; with_reducible rfl) | (go_simp; done))); simp only [Act.put, List.setIfInBounds_toArray, List.set_cons_zero, List.set_cons_succ]) | (apply can1; (· rfl); (· (go_simp; done)); (· (first | (go_simp; with_reducible rfl) | (go_simp; done))); simp only [Act.put, List.setIfInBounds_toArray, List.set_cons_zero, List.set_cons_succ]) | (apply canN; (· rfl); (· (go_simp; done)); simp only [Act.put, List.setIfInBounds_toArray, List.set_cons_zero, List.set_cons_succ]) | (apply canN1; (· rfl); (· (go_simp; done)); simp only [Act.put, List.setIfInBounds_toArray, List.set_cons_zero, List.set_cons_succ])))
  refine canE ?_
  go_wp2
  go_ret
  exact ⟨rfl, HC.out⟩
end
end Go.Proofs.Ytmekakecdgblaaa
