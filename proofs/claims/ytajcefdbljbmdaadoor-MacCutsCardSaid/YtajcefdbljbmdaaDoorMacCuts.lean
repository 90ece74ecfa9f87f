/-
  MacCuts: however the parts are cut, the tag is the same.
-/
import Derived.Test.YtajcefdbljbmdaaDoorFirst4
import Derived.Test.YtajcefdbljbmdaaDoorBz
namespace Go.Proofs.YtajcefdbljbmdaaDoor
open Go.RowKit
set_option linter.unusedVariables false
set_option linter.unusedSimpArgs false

theorem paddedL_eq {k k' : List Int} {b : Int} (h : (if k.length ≤ 64 then k else sumL k) = (if k'.length ≤ 64 then k' else sumL k') ∨ ∀ i, (if k.length ≤ 64 then k else sumL k).getD i 0 = (if k'.length ≤ 64 then k' else sumL k').getD i 0) : paddedL k b = paddedL k' b := by
  unfold paddedL
  rcases h with h | h
  · simp only [h]
  · refine List.map_congr_left fun i _ => ?_
    simp only [h i]
theorem paddedL_zeros {k : List Int} {n : Nat} (h : (k ++ List.replicate n 0).length ≤ 64) (b : Int) : paddedL (k ++ List.replicate n 0) b = paddedL k b := by
  refine paddedL_eq (.inr fun i => ?_)
  have hk : k.length ≤ 64 := by simp at h; omega
  rw [if_pos h, if_pos hk]
  simp only [List.getD]
  by_cases hi : i < k.length
  · rw [List.getElem?_append_left hi]
  · rw [List.getElem?_append_right (by omega), List.getElem?_eq_none (l := k) (by omega), List.getElem?_replicate]
    split <;> rfl
theorem paddedL_sum {k : List Int} (h : ¬ k.length ≤ 64) (b : Int) : paddedL (sumL k) b = paddedL k b := by
  refine paddedL_eq (.inl ?_)
  rw [if_neg h, if_pos (by rw [sumL_len]; omega)]
theorem tagL_zeros {k : List Int} {n : Nat} (h : (k ++ List.replicate n 0).length ≤ 64) (l : List Int) : tagL (k ++ List.replicate n 0) l = tagL k l := by simp only [tagL, hmacL, paddedL_zeros h]
theorem tagL_sum {k : List Int} (h : ¬ k.length ≤ 64) (l : List Int) : tagL (sumL k) l = tagL k l := by simp only [tagL, hmacL, paddedL_sum h]
theorem tagL_len (k l : List Int) : (tagL k l).length = 16 := by simp [tagL, hmacL, sumL_len]
theorem hmacL_byte (k l : List Int) : ∀ x ∈ hmacL k l, 0 ≤ x ∧ x ≤ 255 := sumL_byte _
theorem tagL_byte (k l : List Int) : ∀ x ∈ tagL k l, 0 ≤ x ∧ x ≤ 255 := fun x hx => hmacL_byte k l x (List.mem_of_mem_take hx)
section
variable {w : World} {a : Act} {Q : Exit → Act → World → Prop} {o : Oper} {ops : Array Oper}
theorem wpList_bz {rest : List Oper} (hgd : o.guard = none) (s x : Operand) (ho : o.op = .call { callee := .builtin .append, args := #[s, x], argTypes := #[22, 3] })
    (v : Value) (L : List Int) (k : Nat) (hs : a.eval s = v) (hx : a.eval x = .int .i64 k) (hown : Own w 5 1 v L.length (bytesV L)) (hk : k ≤ 1000) (hl : L.length ≤ 1000000)
    (h : ∀ v' w', Own w' 5 1 v' (L ++ List.replicate k 0).length (bytesV (L ++ List.replicate k 0)) → Chg w w' (blkOf v) → (∀ b, blkOf v' b → blkOf v b ∨ w.heap.size ≤ b) → wpList Tryd.prog ops Q rest (a.put o.dst v') w') : wpList Tryd.prog ops Q (o :: rest) a w :=
  wpList_plain hgd fun _ hK => by
    obtain ⟨v', w', hr, h1, h2, h3⟩ := run_bz w o.type v L k hown hk hl
    unfold Oper.wp execOp
    simp only [ho, resolve, invoke, builtin, Sem.run_bind, Sem.run_pure, Result.andThen_ok, List.map_toArray, List.map_cons, List.map_nil, hs, hx, hr]
    exact hK _ _ (h v' w' (by simpa [bytesV] using h1) h2 h3)
end
theorem Own.keptBut {w w' : World} {v v' : Value} {n : Nat} {xs : List Value} (h : Own w 5 1 v n xs) (hc : Chg w w' (blkOf v')) (hn : ∀ k, blkOf v' k → w.heap.size ≤ k) : Own w' 5 1 v n xs :=
  h.kept hc (fun k hk hk' => by have h1 := hn k hk'; have h2 := h.lt hk; omega)
attribute [local go_sem ↓] run_cut_h run_cut_l
def inCuts (n m : Nat) (c d : Int) : Prop := n ≤ 3000 ∧ m ≤ 3000 ∧ 0 ≤ c ∧ c ≤ m ∧ 0 ≤ d ∧ d ≤ 64
set_option maxRecDepth 100000 in
set_option maxHeartbeats 4000000 in
theorem MacCuts_walk (a0 : Option Addr) (len0 cap0 : Nat) (a1 : Option Addr) (len1 cap1 : Nat) (a2 a3 : Int) (w : World) (l0 l1 : List Int)
    (hr0 : Rd w 1 (.slice a0 len0 cap0) len0 (l0.map (Value.int .u8))) (hr1 : Rd w 1 (.slice a1 len1 cap1) len1 (l1.map (Value.int .u8))) (hl0 : l0.length = len0) (hl1 : l1.length = len1) (y0 : len0 * 1 ≤ 140737488351232) (y1 : len1 * 1 ≤ 140737488351232)
    (w0 : ∀ x ∈ l0, 0 ≤ x ∧ x ≤ 255) (w1 : ∀ x ∈ l1, 0 ≤ x ∧ x ≤ 255) (w2 : -9223372036854775808 ≤ a2 ∧ a2 ≤ 9223372036854775807) (w3 : -9223372036854775808 ≤ a3 ∧ a3 ≤ 9223372036854775807) (nk0 : NilOk (.slice a0 len0 cap0)) (nk1 : NilOk (.slice a1 len1 cap1)) (ht : Tab w) :
    Calls Tryd.prog 5 #[.slice a0 len0 cap0, .slice a1 len1 cap1, .int .i64 a2, .int .i64 a3] w fun e w' => e = .returned (.bool true) ∧ Chg w w' nob := by
  subst hl0 hl1
  have HR0 : Hid (Rd w 1 (.slice a0 l0.length cap0) l0.length (bytesV l0)) := Lib.hid hr0
  have HR1 : Hid (Rd w 1 (.slice a1 l1.length cap1) l1.length (bytesV l1)) := Lib.hid hr1
  have HN0 := Lib.hid nk0
  have HN1 := Lib.hid nk1
  have HB0 := Lib.hid w0
  have HB1 := Lib.hid w1
  have HT := Lib.hid ht
  obtain ⟨v2, v2'⟩ := w2
  obtain ⟨v3, v3'⟩ := w3
  clear hr0 hr1 nk0 nk1 w0 w1 ht
  by_cases hin : inCuts l0.length l1.length a2 a3
  · obtain ⟨h1, h2, h3, h4, h5, h6⟩ := hin
    obtain ⟨c, rfl⟩ : ∃ c : Nat, a2 = c := ⟨a2.toNat, by omega⟩
    obtain ⟨m, rfl⟩ : ∃ m : Nat, a3 = m := ⟨a3.toNat, by omega⟩
    have i1 : (l0.length : Int) ≤ 3000 := by omega
    have i2 : (l1.length : Int) ≤ 3000 := by omega
    have i0 : (0 : Int) ≤ (l0.length : Int) := by omega
    have i0' : (0 : Int) ≤ (l1.length : Int) := by omega
    go_enter Tryd.func5, Tryd.ntmps5
    go_wp2_with fail
    go_at_call 13
    refine (first4_any w HT.out).mono ?_
    rintro e u1 ⟨rfl, hu1⟩
    have HU1 := Lib.hid hu1
    clear hu1
    go_wp2_with fail
    go_at_call 21
    have hps := Ps.one (w := u1) (T := 22) (HR1.out.kept HU1.out (fun _ _ => id)) HN1.out HB1.out
    refine (tag_any _ _ _ l0 [l1] (HT.out.kept (HU1.out.alloc _) id) ((HR0.out.kept HU1.out (fun _ _ => id)).alloc _) HN0.out HB0.out (by omega) hps (by simp) (by simp) (by simp; omega)).mono ?_
    rw [show [l1].flatten = l1 by simp]
    rintro e u2 ⟨t2, rfl, hb2⟩
    have HB2 := Lib.hid hb2
    have HU2 : Hid (Chg w u2 nob) := Lib.hid ((HU1.out.alloc _).trans hb2.2.1 (fun _ _ h => h))
    clear hb2 hps
    go_wp2_with fail
    go_at_call 16
    refine (copy_any u2 _ l0 (HR0.out.kept HU2.out (fun _ _ => id)) HN0.out (by omega)).mono ?_
    rintro e u3 ⟨t3, rfl, ho3, hc3, hf3⟩
    have hT0 : (tagL l0 l1).length = 16 := tagL_len _ _
    have HTB : Hid (∀ x ∈ tagL l0 l1, 0 ≤ x ∧ x ≤ 255) := Lib.hid (tagL_byte _ _)
    obtain ⟨T, hT⟩ : ∃ T, tagL l0 l1 = T := ⟨_, rfl⟩
    rw [hT] at HB2 hT0 HTB
    have hO2 : Own u3 5 1 t2 T.length (bytesV T) := HB2.out.1.kept hc3 (fun _ _ => id)
    have HU3 : Hid (Chg w u3 nob) := Lib.hid (HU2.out.trans hc3 (fun _ _ h => h))
    go_wp2_with (at_builtin; refine wpList_bz rfl (.tmp 46) (.tmp 47) rfl t3 l0 m rfl rfl ho3 (by omega) (by omega) ?_)
    intro t4 u4 ho4 hc4 hf4
    have hO4 : Own u4 5 1 t2 T.length (bytesV T) := hO2.kept hc4 (fun k hk hk' => by
      have h1 := hf3 k hk'
      have h2 := HB2.out.1.lt hk
      omega)
    have HU4 : Hid (Chg w u4 nob) := Lib.hid (HU3.out.trans hc4 (fun i hi hb => by
      have h1 := hf3 i hb
      have h2 := HU2.out.size
      omega))
    have HTZ : Hid ((l0 ++ List.replicate m 0).length ≤ 64 → tagL (l0 ++ List.replicate m 0) l1 = T) := Lib.hid (fun h => by rw [tagL_zeros h, hT])
    have HTS : Hid (¬ l0.length ≤ 64 → tagL (sumL l0) l1 = T) := Lib.hid (fun h => by rw [tagL_sum h, hT])
    have HTH : Hid ((hmacL l0 l1).take 16 = T) := Lib.hid hT
    have HTC : Hid (tagL l0 [l1.take c, [], l1.drop c].flatten = T) := Lib.hid (by rw [← hT]; simp)
    have hzl : (l0 ++ List.replicate m 0).length = l0.length + m := by simp
    have HZB : Hid (∀ x ∈ l0 ++ List.replicate m 0, 0 ≤ x ∧ x ≤ 255) := Lib.hid (fun x hx => by
      rcases List.mem_append.1 hx with h | h
      · exact HB0.out x h
      · have := (List.mem_replicate.1 h).2; omega)
    obtain ⟨Z, hZ⟩ : ∃ Z, l0 ++ List.replicate m 0 = Z := ⟨_, rfl⟩
    have ho4' : Own u4 5 1 t4 Z.length (bytesV Z) := by rw [← hZ]; simpa using ho4
    rw [hZ] at HTZ hzl HZB
    obtain ⟨aT, cT, rfl, _⟩ := hO4.form
    obtain ⟨aZ, cZ, rfl, _⟩ := ho4'.form
    have HZL := Lib.hid hzl
    clear hzl
    have HOT := Lib.hid hO4
    have HOZ := Lib.hid ho4'
    have HTL := Lib.hid hT0
    have hc16 : (c : Int) ≤ (cap1 : Int) := by
      obtain ⟨_, _, e, h, _⟩ := HR1.out.form
      cases e
      omega
    have hcl : (c : Int) ≤ (l1.length : Int) := h4
    have hcn : c ≤ l1.length := by omega
    rw [hT0]
    clear ho3 hc3 hf3 hO2 ho4 hc4 hf4 hO4 ho4' hT0 hT hZ HB2
    have rA : Rd u4 1 (.slice (addS a1 cap1 0) c cap1) (l1.take c).length (bytesV (l1.take c)) := by
      have h := (HR1.out.kept HU4.out (fun _ _ => id)).cut (l := 0) (m := c) (by omega) hcn
      have e : (l1.take c).length = c := by simp; omega
      rw [e]
      simpa [bytesV, List.map_take] using h
    have rB : Rd u4 1 (.slice (addS a1 cap1 c) (l1.length - c) (cap1 - c)) (l1.drop c).length (bytesV (l1.drop c)) := by
      have h := (HR1.out.kept HU4.out (fun _ _ => id)).cut (l := c) (m := l1.length) hcn (Nat.le_refl _)
      have e : (l1.drop c).length = l1.length - c := by simp
      rw [e]
      rw [List.take_of_length_le (by simp [bytesV])] at h
      simpa [bytesV, List.map_drop] using h
    have nA : NilOk (.slice (addS a1 cap1 0) c cap1) := by simpa using HN1.out.cut (l := 0) (m := c)
    have nB : NilOk (.slice (addS a1 cap1 c) (l1.length - c) (cap1 - c)) := HN1.out.cut
    have RA := Lib.hid rA
    have RB := Lib.hid rB
    have NA := Lib.hid nA
    have NB := Lib.hid nB
    clear rA rB nA nB
    go_wp2_with fail
    refine wp_one [] [12, 13, 14, 24, 25, 27] [] [0, 1, 2, 3, 4, 5, 6, 7, 8, 9, 10, 11, 12, 13, 14, 15, 16, 17, 18, 19, 20, 21, 22, 23, 26, 24, 25, 27, 28, 29, 30] rfl (by kernel_rfl) (fun _ _ _ _ _ h => h) ?_; simp only [List.map_cons, List.map_nil, List.getElem?_toArray, List.getElem?_cons_zero, List.getElem?_cons_succ]
    (repeat (first | (apply can0; (· rfl); (· rfl); (· (intro w'; first | (go_simp; with_reducible rfl) | (go_simp; done))); simp only [Act.put, List.setIfInBounds_toArray, List.set_cons_zero, List.set_cons_succ]) | (apply can1; (· rfl); (· rfl); (· (first | (go_simp; with_reducible rfl) | (go_simp; done))); simp only [Act.put, List.setIfInBounds_toArray, List.set_cons_zero, List.set_cons_succ]) | (apply canN; (· rfl); (· rfl); simp only [Act.put, List.setIfInBounds_toArray, List.set_cons_zero, List.set_cons_succ]) | (apply canN1; (· rfl); (· rfl); simp only [Act.put, List.setIfInBounds_toArray, List.set_cons_zero, List.set_cons_succ]) | (apply can0; (· rfl); (· (go_simp; done)); (· (intro w'; first | (go_simp; with_reducible rfl) | (go_simp; done))); simp only [Act.put, List.setIfInBounds_toArray, List.set_cons_zero, List.set_cons_succ]) | (apply can1; (· rfl); (· (go_simp; done)); (· (first | (go_simp; with_reducible rfl) | (go_simp; done))); simp only [Act.put, List.setIfInBounds_toArray, List.set_cons_zero, List.set_cons_succ]) | (apply canN; (· rfl); (· (go_simp; done)); simp only [Act.put, List.setIfInBounds_toArray, List.set_cons_zero, List.set_cons_succ]) | (apply canN1; (· rfl); (· (go_simp; done)); simp only [Act.put, List.setIfInBounds_toArray, List.set_cons_zero, List.set_cons_succ])))
    refine canW rfl [] rfl (fun K hK => ?_)
    go_simp
    (refine hK _ _ (fun u hu => by cases hu) ?_; clear hK K; try simp only [Act.put, List.setIfInBounds_toArray, List.set_cons_zero, List.set_cons_succ])
    have hp3 := Ps.three (w := u4) (T := 22) RA.out NA.out (fun x hx => HB1.out x (List.mem_of_mem_take hx)) (Bx.nil u4).1.rd (Bx.nil u4).nilOk (fun x hx => by cases hx) RB.out NB.out (fun x hx => HB1.out x (List.mem_of_mem_drop hx))
    obtain ⟨W4, hW4⟩ : ∃ W4, World.drew (u4.alloc (.cells #[.slice (addS a1 cap1 0) c cap1, .slice none 0 0, .slice (addS a1 cap1 c) (l1.length - c) (cap1 - c)] 22)) = W4 := ⟨_, rfl⟩
    have hcA : Chg u4 W4 nob := by rw [← hW4]; exact ((Chg.refl u4 nob).alloc _).drew
    have hp4 : Ps W4 (.slice (some ⟨u4.heap.size, 0, none⟩) 3 3) [l1.take c, [], l1.drop c] := by rw [← hW4]; exact hp3.kept (Chg.refl _ nob).drew
    have HP4 := Lib.hid hp4
    have HUA : Hid (Chg w W4 nob) := Lib.hid (HU4.out.trans hcA (fun _ _ h => h))
    have HCA := Lib.hid hcA
    rw [hW4]
    clear hp3 hp4 hcA hW4
    refine canW rfl [] rfl (fun K hK => ?_)
    go_simp
    go_at_call 21
    refine (tag_any W4 _ _ l0 [l1.take c, [], l1.drop c] (HT.out.kept HUA.out id) (HR0.out.kept HUA.out (fun _ _ => id)) HN0.out HB0.out (by omega) HP4.out (by simp) (by simp) (by simp; omega)).mono ?_
    rw [HTC.out]
    rintro e u5 ⟨t5, rfl, hb5⟩
    have hO5 := hb5.1
    have HUB : Hid (Chg u4 u5 nob) := Lib.hid (HCA.out.trans hb5.2.1 (fun _ _ h => h))
    obtain ⟨a5, c5, rfl, _⟩ := hO5.form
    have HO5 := Lib.hid hO5.rd
    have HOTb := Lib.hid (HOT.out.rd.kept HUB.out (fun _ _ => id))
    clear hb5 hO5
    (refine hK _ _ (fun u hu => by cases hu) ?_; clear hK K; try simp only [Act.put, List.setIfInBounds_toArray, List.set_cons_zero, List.set_cons_succ])
    refine canW rfl [] rfl (fun K hK => ?_)
    go_simp
    go_at_call 15
    refine (equal_any u5 _ _ T T (by rw [HTL.out]; have h := HOTb.out; rw [HTL.out] at h; exact h) HO5.out HTB.out HTB.out).mono ?_
    rw [show decide (T = T) = true by simp]
    rintro e u6 ⟨rfl, rfl⟩
    (refine hK _ _ (fun u hu => by cases hu) ?_; clear hK K; try simp only [Act.put, List.setIfInBounds_toArray, List.set_cons_zero, List.set_cons_succ])
    have hzz : ∃ zl, Z.length = zl := ⟨_, rfl⟩
    have HUC : Hid (Chg w u6 nob) := Lib.hid (HU4.out.trans HUB.out (fun _ _ h => h))
    have HOTc : Hid (Rd u6 1 (.slice aT 16 cT) T.length (bytesV T)) := Lib.hid (by have h := HOTb.out; rw [HTL.out] at h ⊢; exact h)
    have HOZc : Hid (Rd u6 1 (.slice aZ Z.length cZ) Z.length (bytesV Z)) := Lib.hid (HOZ.out.rd.kept HUB.out (fun _ _ => id))
    have HNZ : Hid (NilOk (.slice aZ Z.length cZ)) := Lib.hid HOZ.out.nilOk
    clear HOT HOZ HOTb HUB HO5 HCA HP4 HUA
    by_cases hz : Z.length ≤ 64
    · have hzi : (Z.length : Int) ≤ 64 := by omega
      (repeat (first | (apply can0; (· rfl); (· rfl); (· (intro w'; first | (go_simp; with_reducible rfl) | (go_simp; done))); simp only [Act.put, List.setIfInBounds_toArray, List.set_cons_zero, List.set_cons_succ]) | (apply can1; (· rfl); (· rfl); (· (first | (go_simp; with_reducible rfl) | (go_simp; done))); simp only [Act.put, List.setIfInBounds_toArray, List.set_cons_zero, List.set_cons_succ]) | (apply canN; (· rfl); (· rfl); simp only [Act.put, List.setIfInBounds_toArray, List.set_cons_zero, List.set_cons_succ]) | (apply canN1; (· rfl); (· rfl); simp only [Act.put, List.setIfInBounds_toArray, List.set_cons_zero, List.set_cons_succ]) | (apply can0; (· rfl); (· (go_simp; done)); (· (intro w'; first | (go_simp; with_reducible rfl) | (go_simp; done))); simp only [Act.put, List.setIfInBounds_toArray, List.set_cons_zero, List.set_cons_succ]) | (apply can1; (· rfl); (· (go_simp; done)); (· (first | (go_simp; with_reducible rfl) | (go_simp; done))); simp only [Act.put, List.setIfInBounds_toArray, List.set_cons_zero, List.set_cons_succ]) | (apply canN; (· rfl); (· (go_simp; done)); simp only [Act.put, List.setIfInBounds_toArray, List.set_cons_zero, List.set_cons_succ]) | (apply canN1; (· rfl); (· (go_simp; done)); simp only [Act.put, List.setIfInBounds_toArray, List.set_cons_zero, List.set_cons_succ])))
      refine canW rfl [] rfl (fun K hK => ?_)
      go_simp
      (refine hK _ _ (fun u hu => by cases hu) ?_; clear hK K; try simp only [Act.put, List.setIfInBounds_toArray, List.set_cons_zero, List.set_cons_succ])
      have hp1 := Ps.one (w := u6) (T := 22) (HR1.out.kept HUC.out (fun _ _ => id)) HN1.out HB1.out
      obtain ⟨W6, hW6⟩ : ∃ W6, u6.alloc (.cells #[.slice a1 l1.length cap1] 22) = W6 := ⟨_, rfl⟩
      have hcA : Chg u6 W6 nob := by rw [← hW6]; exact (Chg.refl u6 nob).alloc _
      rw [hW6] at hp1 ⊢
      have HP1 := Lib.hid hp1
      have HCA := Lib.hid hcA
      clear hp1 hcA hW6
      refine canW rfl [] rfl (fun K hK => ?_)
      go_simp
      go_at_call 21
      refine (tag_any W6 _ _ Z [l1] (HT.out.kept (HUC.out.trans HCA.out (fun _ _ h => h)) id) (HOZc.out.kept HCA.out (fun _ _ => id)) HNZ.out HZB.out (by have := HZL.out; omega) HP1.out (by simp) (by simp) (by simp; omega)).mono ?_
      rw [show [l1].flatten = l1 by simp, HTZ.out hz]
      rintro e u7 ⟨t7, rfl, hb7⟩
      have hO7 := hb7.1
      have hcB : Chg u6 u7 nob := HCA.out.trans hb7.2.1 (fun _ _ h => h)
      obtain ⟨a7, c7, rfl, _⟩ := hO7.form
      have HO7 : Hid (Rd u7 1 (.slice a7 T.length c7) T.length (bytesV T)) := Lib.hid hO7.rd
      have HUD : Hid (Chg w u7 nob) := Lib.hid (HUC.out.trans hcB (fun _ _ h => h))
      have HOTd : Hid (Rd u7 1 (.slice aT 16 cT) T.length (bytesV T)) := Lib.hid (HOTc.out.kept hcB (fun _ _ => id))
      clear hb7 hO7 hcB HOTc HOZc HUC HCA HP1
      (refine hK _ _ (fun u hu => by cases hu) ?_; clear hK K; try simp only [Act.put, List.setIfInBounds_toArray, List.set_cons_zero, List.set_cons_succ])
      (repeat (first | (apply can0; (· rfl); (· rfl); (· (intro w'; first | (go_simp; with_reducible rfl) | (go_simp; done))); simp only [Act.put, List.setIfInBounds_toArray, List.set_cons_zero, List.set_cons_succ]) | (apply can1; (· rfl); (· rfl); (· (first | (go_simp; with_reducible rfl) | (go_simp; done))); simp only [Act.put, List.setIfInBounds_toArray, List.set_cons_zero, List.set_cons_succ]) | (apply canN; (· rfl); (· rfl); simp only [Act.put, List.setIfInBounds_toArray, List.set_cons_zero, List.set_cons_succ]) | (apply canN1; (· rfl); (· rfl); simp only [Act.put, List.setIfInBounds_toArray, List.set_cons_zero, List.set_cons_succ]) | (apply can0; (· rfl); (· (go_simp; done)); (· (intro w'; first | (go_simp; with_reducible rfl) | (go_simp; done))); simp only [Act.put, List.setIfInBounds_toArray, List.set_cons_zero, List.set_cons_succ]) | (apply can1; (· rfl); (· (go_simp; done)); (· (first | (go_simp; with_reducible rfl) | (go_simp; done))); simp only [Act.put, List.setIfInBounds_toArray, List.set_cons_zero, List.set_cons_succ]) | (apply canN; (· rfl); (· (go_simp; done)); simp only [Act.put, List.setIfInBounds_toArray, List.set_cons_zero, List.set_cons_succ]) | (apply canN1; (· rfl); (· (go_simp; done)); simp only [Act.put, List.setIfInBounds_toArray, List.set_cons_zero, List.set_cons_succ])))
      refine canW rfl [] rfl (fun K hK => ?_)
      go_simp
      go_at_call 15
      refine (equal_any u7 _ _ T T HO7.out HOTd.out HTB.out HTB.out).mono ?_
      rw [show decide (T = T) = true by simp]
      rintro e u8 ⟨rfl, rfl⟩
      (refine hK _ _ (fun u hu => by cases hu) ?_; clear hK K; try simp only [Act.put, List.setIfInBounds_toArray, List.set_cons_zero, List.set_cons_succ])
      (repeat (first | (apply can0; (· rfl); (· rfl); (· (intro w'; first | (go_simp; with_reducible rfl) | (go_simp; done))); simp only [Act.put, List.setIfInBounds_toArray, List.set_cons_zero, List.set_cons_succ]) | (apply can1; (· rfl); (· rfl); (· (first | (go_simp; with_reducible rfl) | (go_simp; done))); simp only [Act.put, List.setIfInBounds_toArray, List.set_cons_zero, List.set_cons_succ]) | (apply canN; (· rfl); (· rfl); simp only [Act.put, List.setIfInBounds_toArray, List.set_cons_zero, List.set_cons_succ]) | (apply canN1; (· rfl); (· rfl); simp only [Act.put, List.setIfInBounds_toArray, List.set_cons_zero, List.set_cons_succ]) | (apply can0; (· rfl); (· (go_simp; done)); (· (intro w'; first | (go_simp; with_reducible rfl) | (go_simp; done))); simp only [Act.put, List.setIfInBounds_toArray, List.set_cons_zero, List.set_cons_succ]) | (apply can1; (· rfl); (· (go_simp; done)); (· (first | (go_simp; with_reducible rfl) | (go_simp; done))); simp only [Act.put, List.setIfInBounds_toArray, List.set_cons_zero, List.set_cons_succ]) | (apply canN; (· rfl); (· (go_simp; done)); simp only [Act.put, List.setIfInBounds_toArray, List.set_cons_zero, List.set_cons_succ]) | (apply canN1; (· rfl); (· (go_simp; done)); simp only [Act.put, List.setIfInBounds_toArray, List.set_cons_zero, List.set_cons_succ])))
      refine canE ?_
      have hps := Ps.one (w := u8) (T := 22) (HR1.out.kept HUD.out (fun _ _ => id)) HN1.out HB1.out
      obtain ⟨X1, hX1⟩ : ∃ X1, u8.alloc (.cells #[.slice a1 l1.length cap1] 22) = X1 := ⟨_, rfl⟩
      have hcX : Chg u8 X1 nob := by rw [← hX1]; exact (Chg.refl u8 nob).alloc _
      have hmk := hX1
      rw [hX1] at hps
      have HPS := Lib.hid hps
      have HCX := Lib.hid hcX
      clear hps hcX
      go_wp2_with fail
      go_at_call 14
      try rw [hX1]
      clear hX1 hmk
      refine (hmac_any X1 _ _ l0 [l1] (HT.out.kept (HUD.out.trans HCX.out (fun _ _ h => h)) id) (HR0.out.kept (HUD.out.trans HCX.out (fun _ _ h => h)) (fun _ _ => id)) HN0.out HB0.out (by omega) HPS.out (by simp) (by simp) (by simp; omega)).mono ?_
      rw [show [l1].flatten = l1 by simp]
      rintro e x2 ⟨t9, rfl, hb9⟩
      have hHl : (hmacL l0 l1).length = 32 := sumL_len _
      have HHB : Hid (∀ x ∈ hmacL l0 l1, 0 ≤ x ∧ x ≤ 255) := Lib.hid (hmacL_byte _ _)
      obtain ⟨H, hH⟩ : ∃ H, hmacL l0 l1 = H := ⟨_, rfl⟩
      rw [hH] at hb9 hHl HHB HTH
      have hO9 := hb9.1
      have hcY : Chg u8 x2 nob := HCX.out.trans hb9.2.1 (fun _ _ h => h)
      have HX2 : Hid (Chg w x2 nob) := Lib.hid (HUD.out.trans hcY (fun _ _ h => h))
      have HT2 : Hid (Rd x2 1 (.slice aT 16 cT) T.length (bytesV T)) := Lib.hid (HOTd.out.kept hcY (fun _ _ => id))
      obtain ⟨a9, c9, rfl, hc9, _⟩ := hO9.form
      have HO9 := Lib.hid hO9
      have HHL := Lib.hid hHl
      have h916 : (16 : Int) ≤ (c9 : Int) := by omega
      rw [hHl]
      clear hO9 hb9 hcY hH hHl HCX HPS hc9
      go_wp2_with fail
      go_at_call 13
      refine (first4_any x2 (HT.out.kept HX2.out id)).mono ?_
      rintro e x3 ⟨rfl, hx3⟩
      have HX3 : Hid (Chg w x3 nob) := Lib.hid (HX2.out.trans hx3 (fun _ _ h => h))
      have HT3 : Hid (Rd x3 1 (.slice aT 16 cT) T.length (bytesV T)) := Lib.hid (HT2.out.kept hx3 (fun _ _ => id))
      have HH3 : Hid (Rd x3 1 (.slice (addS a9 c9 0) 16 c9) (H.take 16).length (bytesV (H.take 16))) := Lib.hid (by
        have h := (HO9.out.rd.kept hx3 (fun _ _ => id)).cut (l := 0) (m := 16) (by omega) (by rw [HHL.out]; omega)
        have e : (H.take 16).length = 16 := by rw [List.length_take, HHL.out]; rfl
        rw [e]
        simpa [bytesV, List.map_take] using h)
      have HHT : Hid (∀ x ∈ H.take 16, 0 ≤ x ∧ x ≤ 255) := Lib.hid (fun x hx => HHB.out x (List.mem_of_mem_take hx))
      clear hx3 HX2 HT2 HO9
      by_cases hk : l0.length ≤ 64
      · have hki : (l0.length : Int) ≤ 64 := by omega
        go_wp2_with fail
        go_at_call 18
        refine (bytes_eq x3 _ _ (H.take 16) T HH3.out HT3.out HHT.out HTB.out).mono ?_
        rw [HTH.out, show decide (T = T) = true by simp]
        rintro e x4 ⟨rfl, rfl⟩
        go_wp2
        go_ret
        exact ⟨rfl, HX3.out⟩
      · have hki : (64 : Int) < (l0.length : Int) := by omega
        go_wp2_with fail
        go_at_call 17
        refine (sum_any x3 _ l0 (HT.out.kept HX3.out id) (HR0.out.kept HX3.out (fun _ _ => id)) HN0.out HB0.out (by omega)).mono ?_
        rintro e x4 ⟨s4, rfl, hb4⟩
        have HS4 := Lib.hid hb4.1.rd
        have HSN := Lib.hid hb4.1.nilOk
        have HX4 : Hid (Chg w x4 nob) := Lib.hid (HX3.out.trans hb4.2.1 (fun _ _ h => h))
        have HT4 : Hid (Rd x4 1 (.slice aT 16 cT) T.length (bytesV T)) := Lib.hid (HT3.out.kept hb4.2.1 (fun _ _ => id))
        have HH4 := Lib.hid (HH3.out.kept hb4.2.1 (fun _ _ => id))
        have hp5 := Ps.one (w := x4) (T := 22) (HR1.out.kept HX4.out (fun _ _ => id)) HN1.out HB1.out
        have HP5 := Lib.hid hp5
        clear hb4 hp5 HX3 HT3 HH3
        go_wp2_with fail
        go_at_call 21
        refine (tag_any _ _ _ (sumL l0) [l1] (HT.out.kept (HX4.out.alloc _) id) (HS4.out.alloc _) HSN.out (sumL_byte _) (by rw [sumL_len]; omega) HP5.out (by simp) (by simp) (by simp; omega)).mono ?_
        rw [show [l1].flatten = l1 by simp, HTS.out hk]
        rintro e x5 ⟨t5, rfl, hb5⟩
        have HO5 := Lib.hid hb5.1.rd
        have hcz : Chg x4 x5 nob := ((Chg.refl x4 nob).alloc _).trans hb5.2.1 (fun _ _ h => h)
        have HX5 : Hid (Chg w x5 nob) := Lib.hid (HX4.out.trans hcz (fun _ _ h => h))
        have HT5 : Hid (Rd x5 1 (.slice aT 16 cT) T.length (bytesV T)) := Lib.hid (HT4.out.kept hcz (fun _ _ => id))
        have HH5 := Lib.hid (HH4.out.kept hcz (fun _ _ => id))
        clear hb5 hcz HX4 HT4 HH4 HP5
        go_wp2_with fail
        go_at_call 15
        refine (equal_any x5 _ _ T T HO5.out HT5.out HTB.out HTB.out).mono ?_
        rw [show decide (T = T) = true by simp]
        rintro e x6 ⟨rfl, rfl⟩
        go_wp2_with fail
        go_at_call 18
        refine (bytes_eq x6 _ _ (H.take 16) T HH5.out HT5.out HHT.out HTB.out).mono ?_
        rw [HTH.out, show decide (T = T) = true by simp]
        rintro e x7 ⟨rfl, rfl⟩
        go_wp2
        go_ret
        exact ⟨rfl, HX5.out⟩
    · have hzn : ((Z.length : Int) ≤ 64) = False := by simp; omega
      have hzd : decide ((Z.length : Int) ≤ 64) = false := by simp; omega
      (repeat (first | (apply can0; (· rfl); (· rfl); (· (intro w'; first | (go_simp; with_reducible rfl) | (go_simp; done))); simp only [Act.put, List.setIfInBounds_toArray, List.set_cons_zero, List.set_cons_succ]) | (apply can1; (· rfl); (· rfl); (· (first | (go_simp; with_reducible rfl) | (go_simp; done))); simp only [Act.put, List.setIfInBounds_toArray, List.set_cons_zero, List.set_cons_succ]) | (apply canN; (· rfl); (· rfl); simp only [Act.put, List.setIfInBounds_toArray, List.set_cons_zero, List.set_cons_succ]) | (apply canN1; (· rfl); (· rfl); simp only [Act.put, List.setIfInBounds_toArray, List.set_cons_zero, List.set_cons_succ]) | (apply can0; (· rfl); (· (go_simp; done)); (· (intro w'; first | (go_simp; with_reducible rfl) | (go_simp; done))); simp only [Act.put, List.setIfInBounds_toArray, List.set_cons_zero, List.set_cons_succ]) | (apply can1; (· rfl); (· (go_simp; done)); (· (first | (go_simp; with_reducible rfl) | (go_simp; done))); simp only [Act.put, List.setIfInBounds_toArray, List.set_cons_zero, List.set_cons_succ]) | (apply canN; (· rfl); (· (go_simp; done)); simp only [Act.put, List.setIfInBounds_toArray, List.set_cons_zero, List.set_cons_succ]) | (apply canN1; (· rfl); (· (go_simp; done)); simp only [Act.put, List.setIfInBounds_toArray, List.set_cons_zero, List.set_cons_succ])))
      refine canM rfl [] rfl rfl (fun u hu => by cases hu) ?_
      (repeat (first | (apply can0; (· rfl); (· rfl); (· (intro w'; first | (go_simp; with_reducible rfl) | (go_simp; done))); simp only [Act.put, List.setIfInBounds_toArray, List.set_cons_zero, List.set_cons_succ]) | (apply can1; (· rfl); (· rfl); (· (first | (go_simp; with_reducible rfl) | (go_simp; done))); simp only [Act.put, List.setIfInBounds_toArray, List.set_cons_zero, List.set_cons_succ]) | (apply canN; (· rfl); (· rfl); simp only [Act.put, List.setIfInBounds_toArray, List.set_cons_zero, List.set_cons_succ]) | (apply canN1; (· rfl); (· rfl); simp only [Act.put, List.setIfInBounds_toArray, List.set_cons_zero, List.set_cons_succ]) | (apply can0; (· rfl); (· (go_simp; done)); (· (intro w'; first | (go_simp; with_reducible rfl) | (go_simp; done))); simp only [Act.put, List.setIfInBounds_toArray, List.set_cons_zero, List.set_cons_succ]) | (apply can1; (· rfl); (· (go_simp; done)); (· (first | (go_simp; with_reducible rfl) | (go_simp; done))); simp only [Act.put, List.setIfInBounds_toArray, List.set_cons_zero, List.set_cons_succ]) | (apply canN; (· rfl); (· (go_simp; done)); simp only [Act.put, List.setIfInBounds_toArray, List.set_cons_zero, List.set_cons_succ]) | (apply canN1; (· rfl); (· (go_simp; done)); simp only [Act.put, List.setIfInBounds_toArray, List.set_cons_zero, List.set_cons_succ])))
      refine canM rfl [] rfl rfl (fun u hu => by cases hu) ?_
      (repeat (first | (apply can0; (· rfl); (· rfl); (· (intro w'; first | (go_simp; with_reducible rfl) | (go_simp; done))); simp only [Act.put, List.setIfInBounds_toArray, List.set_cons_zero, List.set_cons_succ]) | (apply can1; (· rfl); (· rfl); (· (first | (go_simp; with_reducible rfl) | (go_simp; done))); simp only [Act.put, List.setIfInBounds_toArray, List.set_cons_zero, List.set_cons_succ]) | (apply canN; (· rfl); (· rfl); simp only [Act.put, List.setIfInBounds_toArray, List.set_cons_zero, List.set_cons_succ]) | (apply canN1; (· rfl); (· rfl); simp only [Act.put, List.setIfInBounds_toArray, List.set_cons_zero, List.set_cons_succ]) | (apply can0; (· rfl); (· (go_simp; done)); (· (intro w'; first | (go_simp; with_reducible rfl) | (go_simp; done))); simp only [Act.put, List.setIfInBounds_toArray, List.set_cons_zero, List.set_cons_succ]) | (apply can1; (· rfl); (· (go_simp; done)); (· (first | (go_simp; with_reducible rfl) | (go_simp; done))); simp only [Act.put, List.setIfInBounds_toArray, List.set_cons_zero, List.set_cons_succ]) | (apply canN; (· rfl); (· (go_simp; done)); simp only [Act.put, List.setIfInBounds_toArray, List.set_cons_zero, List.set_cons_succ]) | (apply canN1; (· rfl); (· (go_simp; done)); simp only [Act.put, List.setIfInBounds_toArray, List.set_cons_zero, List.set_cons_succ])))
      refine canM rfl [] rfl rfl (fun u hu => by cases hu) ?_
      (repeat (first | (apply can0; (· rfl); (· rfl); (· (intro w'; first | (go_simp; with_reducible rfl) | (go_simp; done))); simp only [Act.put, List.setIfInBounds_toArray, List.set_cons_zero, List.set_cons_succ]) | (apply can1; (· rfl); (· rfl); (· (first | (go_simp; with_reducible rfl) | (go_simp; done))); simp only [Act.put, List.setIfInBounds_toArray, List.set_cons_zero, List.set_cons_succ]) | (apply canN; (· rfl); (· rfl); simp only [Act.put, List.setIfInBounds_toArray, List.set_cons_zero, List.set_cons_succ]) | (apply canN1; (· rfl); (· rfl); simp only [Act.put, List.setIfInBounds_toArray, List.set_cons_zero, List.set_cons_succ]) | (apply can0; (· rfl); (· (go_simp; done)); (· (intro w'; first | (go_simp; with_reducible rfl) | (go_simp; done))); simp only [Act.put, List.setIfInBounds_toArray, List.set_cons_zero, List.set_cons_succ]) | (apply can1; (· rfl); (· (go_simp; done)); (· (first | (go_simp; with_reducible rfl) | (go_simp; done))); simp only [Act.put, List.setIfInBounds_toArray, List.set_cons_zero, List.set_cons_succ]) | (apply canN; (· rfl); (· (go_simp; done)); simp only [Act.put, List.setIfInBounds_toArray, List.set_cons_zero, List.set_cons_succ]) | (apply canN1; (· rfl); (· (go_simp; done)); simp only [Act.put, List.setIfInBounds_toArray, List.set_cons_zero, List.set_cons_succ])))
      refine canE ?_
      have hps := Ps.one (w := u6) (T := 22) (HR1.out.kept HUC.out (fun _ _ => id)) HN1.out HB1.out
      obtain ⟨X1, hX1⟩ : ∃ X1, u6.alloc (.cells #[.slice a1 l1.length cap1] 22) = X1 := ⟨_, rfl⟩
      have hcX : Chg u6 X1 nob := by rw [← hX1]; exact (Chg.refl u6 nob).alloc _
      have hmk := hX1
      rw [hX1] at hps
      have HPS := Lib.hid hps
      have HCX := Lib.hid hcX
      clear hps hcX
      go_wp2_with fail
      go_at_call 14
      try rw [hX1]
      clear hX1 hmk
      refine (hmac_any X1 _ _ l0 [l1] (HT.out.kept (HUC.out.trans HCX.out (fun _ _ h => h)) id) (HR0.out.kept (HUC.out.trans HCX.out (fun _ _ h => h)) (fun _ _ => id)) HN0.out HB0.out (by omega) HPS.out (by simp) (by simp) (by simp; omega)).mono ?_
      rw [show [l1].flatten = l1 by simp]
      rintro e x2 ⟨t9, rfl, hb9⟩
      have hHl : (hmacL l0 l1).length = 32 := sumL_len _
      have HHB : Hid (∀ x ∈ hmacL l0 l1, 0 ≤ x ∧ x ≤ 255) := Lib.hid (hmacL_byte _ _)
      obtain ⟨H, hH⟩ : ∃ H, hmacL l0 l1 = H := ⟨_, rfl⟩
      rw [hH] at hb9 hHl HHB HTH
      have hO9 := hb9.1
      have hcY : Chg u6 x2 nob := HCX.out.trans hb9.2.1 (fun _ _ h => h)
      have HX2 : Hid (Chg w x2 nob) := Lib.hid (HUC.out.trans hcY (fun _ _ h => h))
      have HT2 : Hid (Rd x2 1 (.slice aT 16 cT) T.length (bytesV T)) := Lib.hid (HOTc.out.kept hcY (fun _ _ => id))
      obtain ⟨a9, c9, rfl, hc9, _⟩ := hO9.form
      have HO9 := Lib.hid hO9
      have HHL := Lib.hid hHl
      have h916 : (16 : Int) ≤ (c9 : Int) := by omega
      rw [hHl]
      clear hO9 hb9 hcY hH hHl HCX HPS hc9
      go_wp2_with fail
      go_at_call 13
      refine (first4_any x2 (HT.out.kept HX2.out id)).mono ?_
      rintro e x3 ⟨rfl, hx3⟩
      have HX3 : Hid (Chg w x3 nob) := Lib.hid (HX2.out.trans hx3 (fun _ _ h => h))
      have HT3 : Hid (Rd x3 1 (.slice aT 16 cT) T.length (bytesV T)) := Lib.hid (HT2.out.kept hx3 (fun _ _ => id))
      have HH3 : Hid (Rd x3 1 (.slice (addS a9 c9 0) 16 c9) (H.take 16).length (bytesV (H.take 16))) := Lib.hid (by
        have h := (HO9.out.rd.kept hx3 (fun _ _ => id)).cut (l := 0) (m := 16) (by omega) (by rw [HHL.out]; omega)
        have e : (H.take 16).length = 16 := by rw [List.length_take, HHL.out]; rfl
        rw [e]
        simpa [bytesV, List.map_take] using h)
      have HHT : Hid (∀ x ∈ H.take 16, 0 ≤ x ∧ x ≤ 255) := Lib.hid (fun x hx => HHB.out x (List.mem_of_mem_take hx))
      clear hx3 HX2 HT2 HO9
      by_cases hk : l0.length ≤ 64
      · have hki : (l0.length : Int) ≤ 64 := by omega
        go_wp2_with fail
        go_at_call 18
        refine (bytes_eq x3 _ _ (H.take 16) T HH3.out HT3.out HHT.out HTB.out).mono ?_
        rw [HTH.out, show decide (T = T) = true by simp]
        rintro e x4 ⟨rfl, rfl⟩
        go_wp2
        go_ret
        exact ⟨rfl, HX3.out⟩
      · have hki : (64 : Int) < (l0.length : Int) := by omega
        go_wp2_with fail
        go_at_call 17
        refine (sum_any x3 _ l0 (HT.out.kept HX3.out id) (HR0.out.kept HX3.out (fun _ _ => id)) HN0.out HB0.out (by omega)).mono ?_
        rintro e x4 ⟨s4, rfl, hb4⟩
        have HS4 := Lib.hid hb4.1.rd
        have HSN := Lib.hid hb4.1.nilOk
        have HX4 : Hid (Chg w x4 nob) := Lib.hid (HX3.out.trans hb4.2.1 (fun _ _ h => h))
        have HT4 : Hid (Rd x4 1 (.slice aT 16 cT) T.length (bytesV T)) := Lib.hid (HT3.out.kept hb4.2.1 (fun _ _ => id))
        have HH4 := Lib.hid (HH3.out.kept hb4.2.1 (fun _ _ => id))
        have hp5 := Ps.one (w := x4) (T := 22) (HR1.out.kept HX4.out (fun _ _ => id)) HN1.out HB1.out
        have HP5 := Lib.hid hp5
        clear hb4 hp5 HX3 HT3 HH3
        go_wp2_with fail
        go_at_call 21
        refine (tag_any _ _ _ (sumL l0) [l1] (HT.out.kept (HX4.out.alloc _) id) (HS4.out.alloc _) HSN.out (sumL_byte _) (by rw [sumL_len]; omega) HP5.out (by simp) (by simp) (by simp; omega)).mono ?_
        rw [show [l1].flatten = l1 by simp, HTS.out hk]
        rintro e x5 ⟨t5, rfl, hb5⟩
        have HO5 := Lib.hid hb5.1.rd
        have hcz : Chg x4 x5 nob := ((Chg.refl x4 nob).alloc _).trans hb5.2.1 (fun _ _ h => h)
        have HX5 : Hid (Chg w x5 nob) := Lib.hid (HX4.out.trans hcz (fun _ _ h => h))
        have HT5 : Hid (Rd x5 1 (.slice aT 16 cT) T.length (bytesV T)) := Lib.hid (HT4.out.kept hcz (fun _ _ => id))
        have HH5 := Lib.hid (HH4.out.kept hcz (fun _ _ => id))
        clear hb5 hcz HX4 HT4 HH4 HP5
        go_wp2_with fail
        go_at_call 15
        refine (equal_any x5 _ _ T T HO5.out HT5.out HTB.out HTB.out).mono ?_
        rw [show decide (T = T) = true by simp]
        rintro e x6 ⟨rfl, rfl⟩
        go_wp2_with fail
        go_at_call 18
        refine (bytes_eq x6 _ _ (H.take 16) T HH5.out HT5.out HHT.out HTB.out).mono ?_
        rw [HTH.out, show decide (T = T) = true by simp]
        rintro e x7 ⟨rfl, rfl⟩
        go_wp2
        go_ret
        exact ⟨rfl, HX5.out⟩
  · have hin2 : Hid (¬ inCuts l0.length l1.length a2 a3) := Lib.hid hin
    clear hin
    go_enter Tryd.func5, Tryd.ntmps5
    go_wp2_with fail
    go_at_call 13
    refine (first4_any w HT.out).mono ?_
    rintro e u1 ⟨rfl, hu1⟩
    have HU1 := Lib.hid hu1
    clear hu1
    go_wp2_with fail
    all_goals first
      | (exfalso; exact hin2.out ⟨by omega, by omega, by omega, by omega, by omega, by omega⟩)
      | (go_at_call 13
         refine (first4_any u1 (HT.out.kept HU1.out id)).mono ?_
         rintro e x ⟨rfl, hx⟩
         have HX := Lib.hid hx
         clear hx
         go_wp2
         go_ret
         exact ⟨rfl, HU1.out.trans HX.out (fun _ _ h => h)⟩)
end Go.Proofs.YtajcefdbljbmdaaDoor
