/-
  MacLong: a text in one part, or in many, has one tag.
-/
import Derived.Test.YtajcefdbljbmdaaDoorMacSums
import Derived.Test.YtajcefdbljbmdaaDoorPo
namespace Go.Proofs.YtajcefdbljbmdaaDoor
open Go.RowKit
set_option linter.unusedVariables false
set_option linter.unusedSimpArgs false

attribute [local go_sem ↓] run_min_two run_max_two run_cut_h run_cut_l
def inLong (n m k : Nat) (y x : Int) : Prop := n ≤ 1000 ∧ m ≤ 2000 ∧ k ≤ 40 ∧ 0 ≤ y ∧ x ≠ 0
theorem equal_by {w : World} {va vb : Value} {xs ys : List Int} (ha : By w va xs) (hb : By w vb ys) : Calls Tryd.prog 15 #[va, vb] w fun e w' => e = .returned (.bool (decide (xs = ys))) ∧ w = w' := (equal_any w va vb xs ys ha.rd hb.rd ha.byte hb.byte).mono fun e w' ⟨h1, h2⟩ => ⟨h1, h2.symm⟩
theorem bytes_by {w : World} {va vb : Value} {xs ys : List Int} (ha : By w va xs) (hb : By w vb ys) : Calls Tryd.prog 18 #[va, vb] w fun e w' => e = .returned (.bool (decide (xs = ys))) ∧ w = w' := (bytes_eq w va vb xs ys ha.rd hb.rd ha.byte hb.byte).mono fun e w' ⟨h1, h2⟩ => ⟨h1, h2.symm⟩
theorem sum_by {w : World} {va : Value} {xs : List Int} (ht : Tab w) (ha : By w va xs) (hl : xs.length ≤ 1000000) : Calls Tryd.prog 17 #[va] w fun e w' => ∃ v, e = .returned v ∧ By w' v (sumL xs) ∧ Chg w w' nob := by
  refine (sum_any w va xs ht ha.rd ha.nil ha.byte hl).mono ?_
  rintro e w' ⟨v, rfl, hb⟩
  exact ⟨v, rfl, By.ofBx hb (sum3_byte _), hb.2.1⟩
theorem rsum_by {w : World} {va : Value} {xs : List Int} (ha : By w va xs) (hl : xs.length ≤ 1000000) : Calls Tryd.prog 19 #[va] w fun e w' => ∃ v, e = .returned v ∧ By w' v (sumL xs) ∧ Chg w w' nob := by
  refine (rsum_any w va xs ha.rd ha.nil ha.byte hl).mono ?_
  rintro e w' ⟨v, rfl, hb⟩
  exact ⟨v, rfl, By.ofBx hb (sum3_byte _), hb.2.1⟩
theorem rhmac_by {w : World} {va vb : Value} {xs ys : List Int} (ha : By w va xs) (hb : By w vb ys) (hl : xs.length ≤ 1000000) (hm : ys.length ≤ 900000) : Calls Tryd.prog 20 #[va, vb] w fun e w' => ∃ v, e = .returned v ∧ By w' v (hmacL xs ys) ∧ Chg w w' nob := by
  refine (rhmac_any w va vb xs ys ha.rd ha.nil ha.byte hl hb.rd hb.nil hb.byte hm).mono ?_
  rintro e w' ⟨v, rfl, hb⟩
  exact ⟨v, rfl, By.ofBx hb (hm3_byte _ _), hb.2.1⟩
theorem hmac_by {w : World} {va vp : Value} {xs : List Int} {P : List (List Int)} (ht : Tab w) (ha : By w va xs) (hl : xs.length ≤ 1000000) (hp : Ps w vp P) (h1 : 1 ≤ P.length) (h2 : P.length ≤ 1000000) (hpl : P.flatten.length ≤ 900000) :
    Calls Tryd.prog 14 #[va, vp] w fun e w' => ∃ v, e = .returned v ∧ By w' v (hmacL xs P.flatten) ∧ Chg w w' nob := by
  refine (hmac_any w va vp xs P ht ha.rd ha.nil ha.byte hl hp h1 h2 hpl).mono ?_
  rintro e w' ⟨v, rfl, hb⟩
  exact ⟨v, rfl, By.ofBx hb (hm3_byte _ _), hb.2.1⟩
/-- The key over one part that has just been laid. -/
theorem hmac_one {w : World} {va vb : Value} {xs ys : List Int} (ht : Tab w) (ha : By w va xs) (hl : xs.length ≤ 1000000) (hb : By w vb ys) (hm : ys.length ≤ 900000) :
    Calls Tryd.prog 14 #[va, .slice (some ⟨w.heap.size, 0, none⟩) 1 1] (w.alloc (.cells #[vb] 22)) fun e w' => ∃ v, e = .returned v ∧ By w' v (hmacL xs ys) ∧ Chg w w' nob := by
  have h := hmac_by (w := w.alloc (.cells #[vb] 22)) (ht.kept ((Chg.refl w nob).alloc _) id) (ha.alloc _) hl (Ps.one hb.rd hb.nil hb.byte) (by simp) (by simp) (by simpa using hm)
  rw [show [ys].flatten = ys by simp] at h
  refine h.mono ?_
  rintro e w' ⟨v, rfl, hb, hc⟩
  exact ⟨v, rfl, hb, ((Chg.refl w nob).alloc _).trans hc (fun _ _ h => h)⟩
theorem cut_n (x : Int) (m : Nat) : ∃ n : Nat, mnI (mxI x 0) (m : Int) = (n : Int) ∧ n ≤ m := by
  refine ⟨(mnI (mxI x 0) (m : Int)).toNat, ?_, ?_⟩ <;> (unfold mnI mxI; split <;> split <;> omega)
set_option maxRecDepth 100000 in
set_option maxHeartbeats 1500000 in
theorem MacLong_walk (a0 : Option Addr) (len0 cap0 : Nat) (a1 : Option Addr) (len1 cap1 : Nat) (a2 : Option Addr) (len2 cap2 : Nat) (a3 a4 : Int) (w : World) (l0 l1 l2 : List Int)
    (hr0 : Rd w 1 (.slice a0 len0 cap0) len0 (l0.map (Value.int .u8))) (hr1 : Rd w 1 (.slice a1 len1 cap1) len1 (l1.map (Value.int .u8))) (hr2 : Rd w 1 (.slice a2 len2 cap2) len2 (l2.map (Value.int .i64))) (hl0 : l0.length = len0) (hl1 : l1.length = len1) (hl2 : l2.length = len2) (y0 : len0 * 1 ≤ 140737488351232) (y1 : len1 * 1 ≤ 140737488351232) (y2 : len2 * 8 ≤ 140737488351232)
    (w0 : ∀ x ∈ l0, 0 ≤ x ∧ x ≤ 255) (w1 : ∀ x ∈ l1, 0 ≤ x ∧ x ≤ 255) (w2 : ∀ x ∈ l2, -9223372036854775808 ≤ x ∧ x ≤ 9223372036854775807) (w3 : -9223372036854775808 ≤ a3 ∧ a3 ≤ 9223372036854775807) (w4 : 0 ≤ a4 ∧ a4 ≤ 255)
    (nk0 : NilOk (.slice a0 len0 cap0)) (nk1 : NilOk (.slice a1 len1 cap1)) (nk2 : NilOk (.slice a2 len2 cap2)) (ht : Tab w) :
    Calls Tryd.prog 3 #[.slice a0 len0 cap0, .slice a1 len1 cap1, .slice a2 len2 cap2, .int .i64 a3, .int .u8 a4] w fun e w' => e = .returned (.bool true) ∧ Chg w w' nob := by
  subst hl0 hl1 hl2
  have K0 : Hid (By w (.slice a0 l0.length cap0) l0) := Lib.hid ⟨hr0, nk0, w0⟩
  have K1 : Hid (By w (.slice a1 l1.length cap1) l1) := Lib.hid ⟨hr1, nk1, w1⟩
  have HR2 := Lib.hid hr2
  have HW2 := Lib.hid w2
  have HT := Lib.hid ht
  obtain ⟨v3, v3'⟩ := w3
  obtain ⟨v4, v4'⟩ := w4
  have i0 : (0 : Int) ≤ (l0.length : Int) := by omega
  have i1 : (0 : Int) ≤ (l1.length : Int) := by omega
  have i2 : (0 : Int) ≤ (l2.length : Int) := by omega
  clear hr0 hr1 hr2 nk0 nk1 nk2 w0 w1 w2 ht
  by_cases hin : inLong l0.length l1.length l2.length a3 a4
  · obtain ⟨h1, h2, h3, h4, h5⟩ := hin
    have j0 : (l0.length : Int) ≤ 1000 := by omega
    have j1 : (l1.length : Int) ≤ 2000 := by omega
    have j2 : (l2.length : Int) ≤ 40 := by omega
    have j5 : (a4 == 0) = false := by simpa using h5
    go_enter Tryd.func3, Tryd.ntmps3
    go_wp2_with fail
    go_at_call 13
    refine (first4_any w HT.out).mono ?_
    rintro e u1 ⟨rfl, hu1⟩
    have HU1 := Lib.hid hu1
    clear hu1
    go_wp2_with fail
    go_loopw [11, 12, 13, 14] (fun pv rv iv _ wr => ∃ (i : Nat) (P : List (List Int)) (R : List Int) (ar : Option Addr) (cr : Nat), i ≤ l2.length ∧ Hid (P.length = i) ∧ iv = .int .i64 i ∧ rv = .slice ar R.length cr ∧ Hid (Po w wr pv P) ∧ Hid (P.flatten ++ R = l1) ∧ Hid (By w (.slice ar R.length cr) R) ∧ Hid (∀ k, R ≠ [] → blkOf (.slice ar R.length cr) k → k < w.heap.size) ∧ ∃ ap cp, pv = .slice ap i cp) (fun _ _ iv _ _ => l2.length - (intOf iv).toNat)
    case atStart => exact ⟨0, [], l1, a1, cap1, by omega, Lib.hid rfl, rfl, rfl, Lib.hid ((Po.nil w).kept HU1.out), Lib.hid rfl, K1, Lib.hid (fun k h hk => K1.out.lt h hk), none, 0, rfl⟩
    case round =>
      obtain ⟨i, P, R, ar, cr, hi, hPl, rfl, rfl, HP, HF, HB, HLT, ap, cp, rfl⟩ := hrel
      have hcr : R.length ≤ cr := by obtain ⟨_, _, e, h⟩ := HB.out.form; cases e; exact h
      by_cases hil : i < l2.length
      · have hii : (i : Int) < (l2.length : Int) := by omega
        have hi0 : (0 : Int) ≤ (i : Int) := by omega
        obtain ⟨gk, ok, rfl, hck⟩ := HR2.out.cell (j := i) (u := .int .i64 (l2.getD i 0)) (by simp [List.getD, hil])
        have hcr2 := HP.out.chg.cell hck id
        have hxb := HW2.out (l2.getD i 0) (by simp [List.getD, hil])
        obtain ⟨x, hx⟩ : ∃ x, l2.getD i 0 = x := ⟨_, rfl⟩
        rw [hx] at hcr2 hxb
        obtain ⟨hx1, hx2⟩ := hxb
        obtain ⟨n, hn, hnm⟩ := cut_n x R.length
        have HN := Lib.hid hn
        clear hck hx hn
        go_wp2_with fail
        rw [HN.out]
        have hn0 : (0 : Int) ≤ (n : Int) := by omega
        have hn1 : (n : Int) ≤ (R.length : Int) := by omega
        have hn2 : (n : Int) ≤ (cr : Int) := by omega
        refine wp_one [] [4, 5] [] [0, 1, 2, 3, 6, 7, 8, 4, 5, 9, 10] rfl (by kernel_rfl) (fun _ _ _ _ _ h => h) ?_; simp only [List.map_cons, List.map_nil, List.getElem?_toArray, List.getElem?_cons_zero, List.getElem?_cons_succ]
        (repeat (first | (apply can0; (· rfl); (· rfl); (· (intro w'; first | (go_simp; with_reducible rfl) | (go_simp; done))); simp only [Act.put, List.setIfInBounds_toArray, List.set_cons_zero, List.set_cons_succ]) | (apply can1; (· rfl); (· rfl); (· (first | (go_simp; with_reducible rfl) | (go_simp; done))); simp only [Act.put, List.setIfInBounds_toArray, List.set_cons_zero, List.set_cons_succ]) | (apply canN; (· rfl); (· rfl); simp only [Act.put, List.setIfInBounds_toArray, List.set_cons_zero, List.set_cons_succ]) | (apply canN1; (· rfl); (· rfl); simp only [Act.put, List.setIfInBounds_toArray, List.set_cons_zero, List.set_cons_succ]) | (apply can0; (· rfl); (· (go_simp; done)); (· (intro w'; first | (go_simp; with_reducible rfl) | (go_simp; done))); simp only [Act.put, List.setIfInBounds_toArray, List.set_cons_zero, List.set_cons_succ]) | (apply can1; (· rfl); (· (go_simp; done)); (· (first | (go_simp; with_reducible rfl) | (go_simp; done))); simp only [Act.put, List.setIfInBounds_toArray, List.set_cons_zero, List.set_cons_succ]) | (apply canN; (· rfl); (· (go_simp; done)); simp only [Act.put, List.setIfInBounds_toArray, List.set_cons_zero, List.set_cons_succ]) | (apply canN1; (· rfl); (· (go_simp; done)); simp only [Act.put, List.setIfInBounds_toArray, List.set_cons_zero, List.set_cons_succ])))
        refine canW rfl [] rfl (fun K hK => ?_)
        go_simp
        (refine hK _ _ (fun u hu => by cases hu) ?_; clear hK K; try simp only [Act.put, List.setIfInBounds_toArray, List.set_cons_zero, List.set_cons_succ])
        refine canW rfl [] rfl (fun K hK => ?_)
        rw [show ∀ o, World.drew (wr.alloc o) = (World.drew wr).alloc o from fun _ => rfl]
        refine step_po (P := P) rfl (.tmp 56) (.tmp 60) rfl rfl (HP.out.kept ((Chg.refl _ nob).drew)) (.slice (addS ar cr 0) n cr) (R.take n) rfl ((HB.out.kept HP.out.chg.drew).take hnm) ?_ (by rw [hPl.out]; omega) ?_
        · intro hne k hk hk'
          have h1 := HLT.out k (fun e => hne (by rw [e]; simp)) (addS_blk hk)
          have h2 := HP.out.new k hk'
          omega
        · intro v' w' hp hc hf
          have HPn := Lib.hid hp
          have hpn : (P ++ [R.take n]).length = i + 1 := by simp [hPl.out]
          obtain ⟨ap2, cp2, hvf, _⟩ := hp.form
          rw [hpn] at hvf
          subst hvf
          have HPN := Lib.hid hpn
          clear hpn
          clear hp hc hf
          (refine hK _ _ (fun u hu => by cases hu) ?_; clear hK K; try simp only [Act.put, List.setIfInBounds_toArray, List.set_cons_zero, List.set_cons_succ])
          (repeat (first | (apply can0; (· rfl); (· rfl); (· (intro w'; first | (go_simp; with_reducible rfl) | (go_simp; done))); simp only [Act.put, List.setIfInBounds_toArray, List.set_cons_zero, List.set_cons_succ]) | (apply can1; (· rfl); (· rfl); (· (first | (go_simp; with_reducible rfl) | (go_simp; done))); simp only [Act.put, List.setIfInBounds_toArray, List.set_cons_zero, List.set_cons_succ]) | (apply canN; (· rfl); (· rfl); simp only [Act.put, List.setIfInBounds_toArray, List.set_cons_zero, List.set_cons_succ]) | (apply canN1; (· rfl); (· rfl); simp only [Act.put, List.setIfInBounds_toArray, List.set_cons_zero, List.set_cons_succ]) | (apply can0; (· rfl); (· (go_simp; done)); (· (intro w'; first | (go_simp; with_reducible rfl) | (go_simp; done))); simp only [Act.put, List.setIfInBounds_toArray, List.set_cons_zero, List.set_cons_succ]) | (apply can1; (· rfl); (· (go_simp; done)); (· (first | (go_simp; with_reducible rfl) | (go_simp; done))); simp only [Act.put, List.setIfInBounds_toArray, List.set_cons_zero, List.set_cons_succ]) | (apply canN; (· rfl); (· (go_simp; done)); simp only [Act.put, List.setIfInBounds_toArray, List.set_cons_zero, List.set_cons_succ]) | (apply canN1; (· rfl); (· (go_simp; done)); simp only [Act.put, List.setIfInBounds_toArray, List.set_cons_zero, List.set_cons_succ])))
          refine canE ?_
          go_wp2
          go_roundw
          case rel => exact ⟨i + 1, P ++ [R.take n], R.drop n, _, _, by omega, HPN, by go_num, by rw [List.length_drop], HPn, Lib.hid (by rw [← HF.out]; simp), Lib.hid (by simpa using HB.out.drop hnm), Lib.hid (fun k hne hk => HLT.out k (fun e => hne (by rw [e]; simp)) (addS_blk hk)), _, _, rfl⟩
          case measure => simp [intOf]; omega
      · obtain rfl : i = l2.length := by omega
        have hd : R ≠ [] → ∀ k, blkOf (.slice ar R.length cr) k → ¬ blkOf (.slice ap l2.length cp) k := fun hne k hk hk' => by
          have h1 := HLT.out k hne hk
          have h2 := HP.out.new k hk'
          omega
        have HD := Lib.hid hd
        clear hd
        go_wp2_with (at_builtin; refine wpList_po rfl (.tmp 65) (.tmp 67) rfl rfl HP.out (.slice ar R.length cr) R rfl (HB.out.kept HP.out.chg) HD.out (by rw [hPl.out]; omega) ?_)
        intro v2 w2 hp _ _
        have HP2 := Lib.hid hp
        have HFL : Hid ((P ++ [R]).flatten = l1) := Lib.hid (by rw [← HF.out]; simp)
        have hql : (P ++ [R]).length = l2.length + 1 := by simp [hPl.out]
        obtain ⟨Q, hQ⟩ : ∃ Q, P ++ [R] = Q := ⟨_, rfl⟩
        rw [hQ] at HP2 HFL hql
        have HQL := Lib.hid hql
        have HC := Lib.hid HP2.out.chg
        clear hp hQ hql HP HF HB HLT HD HU1
        go_wp2_with fail
        go_at_call 14
        refine (hmac_one (HT.out.kept HC.out id) (K0.out.kept HC.out) (by omega) (K1.out.kept HC.out) (by omega)).mono ?_
        rintro e w3 ⟨v3, rfl, hb, hck⟩
        have hTl : (hmacL l0 l1).length = 32 := sumL_len _
        obtain ⟨T, hT⟩ : ∃ T, hmacL l0 l1 = T := ⟨_, rfl⟩
        rw [hT] at hb hTl
        obtain ⟨aT, cT, rfl, hcT⟩ := hb.form
        have HTg := Lib.hid hb
        have HTE := Lib.hid hT
        have HTL := Lib.hid hTl
        have hT31 : (31 : Int) ≤ (cT : Int) := by omega
        replace HP2 := Lib.hid (HP2.out.kept hck)
        replace HC : Hid (Chg w w3 nob) := Lib.hid (HC.out.trans hck (fun _ _ h => h))
        rw [hTl]
        clear hb hck hT hTl hcT
        go_wp2_with fail
        go_at_call 14
        refine (hmac_by (HT.out.kept HC.out id) (K0.out.kept HC.out) (by omega) (HP2.out.ps (by have := HQL.out; omega)) (by have := HQL.out; omega) (by have := HQL.out; omega) (by rw [HFL.out]; omega)).mono ?_
        rw [HFL.out, HTE.out]
        rintro e w4 ⟨v4, rfl, hb, hck⟩
        have HT4 := Lib.hid hb
        replace HTg := Lib.hid (HTg.out.kept hck)
        replace HC : Hid (Chg w w4 nob) := Lib.hid (HC.out.trans hck (fun _ _ h => h))
        have HTs : Hid (By w4 (.slice (addS aT cT 0) 31 cT) (T.take 31)) := Lib.hid (HTg.out.take (by rw [HTL.out]; omega))
        have hne : decide (T = T.take 31) = false := decide_eq_false (fun e => by
          have h := congrArg List.length e
          rw [List.length_take, HTL.out] at h
          simp at h)
        have HNE := Lib.hid hne
        have HTg' : Hid (By w4 (.slice aT 32 cT) T) := Lib.hid (by have h := HTg.out; rw [HTL.out] at h; exact h)
        clear hb hck HP2 hne HTg
        go_wp2_with fail
        go_at_call 15
        refine (equal_by HT4.out HTg'.out).mono ?_
        rw [show decide (T = T) = true from decide_eq_true rfl]
        rintro e w5 ⟨rfl, rfl⟩
        go_wp2_with fail
        go_at_call 15
        refine (equal_by HTg'.out HTs.out).mono ?_
        rw [HNE.out]
        rintro e w5 ⟨rfl, rfl⟩
        clear HT4 HTs HNE
        by_cases hz : l1.length = 0
        · have hzi : ((l1.length : Int) == 0) = true := by simp [hz]
          go_wp2_with fail
          go_at_call 13
          refine (first4_any w4 (HT.out.kept HC.out id)).mono ?_
          rintro e w6 ⟨rfl, hx⟩
          have HX := Lib.hid hx
          clear hx
          go_wp2
          go_ret
          exact ⟨rfl, HC.out.trans HX.out (fun _ _ h => h)⟩
        · have hzi : ((l1.length : Int) == 0) = false := by simpa using hz
          have hzn : ((l1.length : Int) = 0) = False := by simpa using hz
          go_wp2_with fail
          go_at_call 16
          refine (copy_any w4 _ l1 (K1.out.rd.kept HC.out (fun _ _ => id)) K1.out.nil (by omega)).mono ?_
          rintro e w6 ⟨v6, rfl, ho, hck, hfr⟩
          obtain ⟨y, hy⟩ : ∃ y : Nat, a3 = (y : Int) := ⟨a3.toNat, by omega⟩
          subst hy
          obtain ⟨m, hm⟩ : ∃ m, l1.length = m := ⟨_, rfl⟩
          have hmod : Int.tmod (y : Int) (m : Int) = ((y % m : Nat) : Int) := by rw [Int.tmod_eq_emod_of_nonneg (by omega)]; omega
          have hlt : y % m < m := Nat.mod_lt _ (by omega)
          obtain ⟨j, hj⟩ : ∃ j, y % m = j := ⟨_, rfl⟩
          rw [hj] at hmod hlt
          obtain ⟨a6, c6, rfl, hc6, _⟩ := ho.form
          obtain ⟨g6, rfl, hcell⟩ := ho.at (j := j) (by omega)
          obtain ⟨cur, hbk⟩ := ho.row (k := g6) rfl
          have hfz := hbk.free j
          rw [show (bytesV l1)[j]? = some (.int .u8 (l1.getD j 0)) by simp [bytesV, List.getD, show j < l1.length by omega]] at hcell
          have hst := (ho.stored j (.int .u8 (bits .xor .u8 (l1.getD j 0) a4))).1
          have hBl : (l1.set j (bits .xor .u8 (l1.getD j 0) a4)).length = l1.length := by simp
          have hB : By (w6.setCell ⟨g6, j, none⟩ (.int .u8 (bits .xor .u8 (l1.getD j 0) a4))) (.slice (some ⟨g6, 0, none⟩) l1.length c6) (l1.set j (bits .xor .u8 (l1.getD j 0) a4)) := by
            refine ⟨?_, fun n c e => (by cases e), fun x hx => ?_⟩
            · rw [hBl]
              have h := Own.rd hst
              simpa [bytesV, List.map_set] using h
            · rcases List.mem_or_eq_of_mem_set hx with h | rfl
              · exact K1.out.byte x h
              · exact ⟨bits_lo_u8 _ _ _, bits_hi_u8 _ _ _⟩
          have hcs : Chg w4 (w6.setCell ⟨g6, j, none⟩ (.int .u8 (bits .xor .u8 (l1.getD j 0) a4))) nob := hck.setCell (.inr (hfr g6 rfl)) _
          obtain ⟨B, hBB⟩ : ∃ B, l1.set j (bits .xor .u8 (l1.getD j 0) a4) = B := ⟨_, rfl⟩
          obtain ⟨x6, hx6⟩ : ∃ x, l1.getD j 0 = x := ⟨_, rfl⟩
          rw [hBB, hx6] at hB
          rw [hBB] at hBl
          rw [hx6] at hcs hcell
          have HB := Lib.hid hB
          have HBL := Lib.hid hBl
          replace HC := Lib.hid (HC.out.trans hcs (fun _ _ h => h))
          have HTn : Hid (By _ (.slice aT 32 cT) T) := Lib.hid (HTg'.out.kept hcs)
          rw [hm] at hzn hzi ⊢
          replace K1 : Hid (By w (.slice a1 m cap1) l1) := Lib.hid (by rw [← hm]; exact K1.out)
          have hm0 : ¬ m = 0 := by omega
          have hj0 : (0 : Int) ≤ (j : Int) := by omega
          have hjm : (j : Int) < (m : Int) := by omega
          clear hB hcs hBB hx6 hst ho hck hfr hbk HTg' hj hlt
          go_wp2_with fail
          refine wp_one [11] [15] [] [0, 1, 2, 3, 4, 5, 6, 7, 8, 9, 10, 11, 12, 13, 14, 15] rfl (by kernel_rfl) (fun _ _ _ _ _ h => h) ?_; simp only [List.map_cons, List.map_nil, List.getElem?_toArray, List.getElem?_cons_zero, List.getElem?_cons_succ]
          (repeat (first | (apply can0; (· rfl); (· rfl); (· (intro w'; first | (go_simp; with_reducible rfl) | (go_simp; done))); simp only [Act.put, List.setIfInBounds_toArray, List.set_cons_zero, List.set_cons_succ]) | (apply can1; (· rfl); (· rfl); (· (first | (go_simp; with_reducible rfl) | (go_simp; done))); simp only [Act.put, List.setIfInBounds_toArray, List.set_cons_zero, List.set_cons_succ]) | (apply canN; (· rfl); (· rfl); simp only [Act.put, List.setIfInBounds_toArray, List.set_cons_zero, List.set_cons_succ]) | (apply canN1; (· rfl); (· rfl); simp only [Act.put, List.setIfInBounds_toArray, List.set_cons_zero, List.set_cons_succ]) | (apply can0; (· rfl); (· (go_simp; done)); (· (intro w'; first | (go_simp; with_reducible rfl) | (go_simp; done))); simp only [Act.put, List.setIfInBounds_toArray, List.set_cons_zero, List.set_cons_succ]) | (apply can1; (· rfl); (· (go_simp; done)); (· (first | (go_simp; with_reducible rfl) | (go_simp; done))); simp only [Act.put, List.setIfInBounds_toArray, List.set_cons_zero, List.set_cons_succ]) | (apply canN; (· rfl); (· (go_simp; done)); simp only [Act.put, List.setIfInBounds_toArray, List.set_cons_zero, List.set_cons_succ]) | (apply canN1; (· rfl); (· (go_simp; done)); simp only [Act.put, List.setIfInBounds_toArray, List.set_cons_zero, List.set_cons_succ])))
          refine canW rfl [] rfl (fun K hK => ?_)
          go_simp
          (refine hK _ _ (fun u hu => by cases hu) ?_; clear hK K; try simp only [Act.put, List.setIfInBounds_toArray, List.set_cons_zero, List.set_cons_succ])
          refine canE ?_
          obtain ⟨W7, hW7⟩ : ∃ W, World.drew (w6.setCell ⟨g6, j, none⟩ (.int .u8 (bits .xor .u8 x6 a4))) = W := ⟨_, rfl⟩
          rw [hW7]
          replace HC : Hid (Chg w W7 nob) := Lib.hid (by rw [← hW7]; exact HC.out.drew)
          replace HTn : Hid (By W7 (.slice aT 32 cT) T) := Lib.hid (by rw [← hW7]; exact HTn.out.kept (Chg.refl _ nob).drew)
          replace HB : Hid (By W7 (.slice (some ⟨g6, 0, none⟩) m c6) B) := Lib.hid (by rw [← hW7, ← hm]; exact HB.out.kept (Chg.refl _ nob).drew)
          have hBm : B.length = m := by rw [HBL.out, hm]
          have HBM := Lib.hid hBm
          clear hW7 hcell hfz hBm
          go_wp2_with fail
          go_at_call 13
          refine (first4_any W7 (HT.out.kept HC.out id)).mono ?_
          rintro e W8 ⟨rfl, hck⟩
          replace HC : Hid (Chg w W8 nob) := Lib.hid (HC.out.trans hck (fun _ _ h => h))
          replace HTn := Lib.hid (HTn.out.kept hck)
          replace HB := Lib.hid (HB.out.kept hck)
          clear hck
          go_wp2_with fail
          go_at_call 17
          refine (sum_by (HT.out.kept HC.out id) (K1.out.kept HC.out) (by omega)).mono ?_
          rintro e W9 ⟨s1, rfl, hb, hck⟩
          have HS1 := Lib.hid hb
          replace HC : Hid (Chg w W9 nob) := Lib.hid (HC.out.trans hck (fun _ _ h => h))
          replace HTn := Lib.hid (HTn.out.kept hck)
          replace HB := Lib.hid (HB.out.kept hck)
          clear hck hb
          go_wp2_with fail
          go_at_call 17
          refine (sum_by (HT.out.kept HC.out id) HB.out (by rw [HBM.out]; omega)).mono ?_
          rintro e Wa ⟨s2, rfl, hb, hck⟩
          have HS2 := Lib.hid hb
          replace HS1 := Lib.hid (HS1.out.kept hck)
          replace HC : Hid (Chg w Wa nob) := Lib.hid (HC.out.trans hck (fun _ _ h => h))
          replace HTn := Lib.hid (HTn.out.kept hck)
          replace HB := Lib.hid (HB.out.kept hck)
          clear hck hb
          obtain ⟨b1, hb1⟩ : ∃ b, decide (sumL l1 = sumL B) = b := ⟨_, rfl⟩
          have HB1 := Lib.hid hb1
          clear hb1
          go_wp2_with fail
          go_at_call 15
          refine (equal_by HS1.out HS2.out).mono ?_
          rw [HB1.out]
          rintro e x ⟨rfl, rfl⟩
          cases b1
          · clear HS1 HS2
            obtain ⟨b2, hb2⟩ : ∃ b, decide (hmacL l0 B = T) = b := ⟨_, rfl⟩
            have HB2 := Lib.hid hb2
            clear hb2
            go_wp2_with fail
            go_at_call 14
            refine (hmac_one (HT.out.kept HC.out id) (K0.out.kept HC.out) (by omega) HB.out (by rw [HBM.out]; omega)).mono ?_
            rintro e Wd ⟨s5, rfl, hb, hck⟩
            have HS5 := Lib.hid hb
            replace HC : Hid (Chg w Wd nob) := Lib.hid (HC.out.trans hck (fun _ _ h => h))
            replace HTn := Lib.hid (HTn.out.kept hck)
            replace HB := Lib.hid (HB.out.kept hck)
            clear hck hb
            go_wp2_with fail
            go_at_call 15
            refine (equal_by HS5.out HTn.out).mono ?_
            rw [HB2.out]
            rintro e x ⟨rfl, rfl⟩
            cases b2
            · go_wp2
              go_ret
              exact ⟨rfl, HC.out⟩
            · have hbt : hmacL l0 B = T := of_decide_eq_true HB2.out
              have HBT : Hid (decide (hmacL l0 l1 = hmacL l0 B) = true) := Lib.hid (decide_eq_true (by rw [hbt, HTE.out]))
              clear hbt HS5
              go_wp2_with fail
              go_at_call 20
              refine (rhmac_by (K0.out.kept HC.out) (K1.out.kept HC.out) (by omega) (by omega)).mono ?_
              rintro e We ⟨s6, rfl, hb, hck⟩
              have HS6 := Lib.hid hb
              replace HC : Hid (Chg w We nob) := Lib.hid (HC.out.trans hck (fun _ _ h => h))
              replace HTn := Lib.hid (HTn.out.kept hck)
              replace HB := Lib.hid (HB.out.kept hck)
              clear hck hb
              go_wp2_with fail
              go_at_call 20
              refine (rhmac_by (K0.out.kept HC.out) HB.out (by omega) (by rw [HBM.out]; omega)).mono ?_
              rintro e Wf ⟨s7, rfl, hb, hck⟩
              have HS7 := Lib.hid hb
              replace HS6 := Lib.hid (HS6.out.kept hck)
              replace HC : Hid (Chg w Wf nob) := Lib.hid (HC.out.trans hck (fun _ _ h => h))
              replace HTn := Lib.hid (HTn.out.kept hck)
              replace HB := Lib.hid (HB.out.kept hck)
              clear hck hb
              go_wp2_with fail
              go_at_call 18
              refine (bytes_by HS6.out HS7.out).mono ?_
              rw [HBT.out]
              rintro e x ⟨rfl, rfl⟩
              go_wp2
              go_ret
              exact ⟨rfl, HC.out⟩
          · go_wp2_with fail
            go_at_call 19
            refine (rsum_by (K1.out.kept HC.out) (by omega)).mono ?_
            rintro e Wb ⟨s3, rfl, hb, hck⟩
            have HS3 := Lib.hid hb
            replace HC : Hid (Chg w Wb nob) := Lib.hid (HC.out.trans hck (fun _ _ h => h))
            replace HTn := Lib.hid (HTn.out.kept hck)
            replace HB := Lib.hid (HB.out.kept hck)
            clear hck hb HS1 HS2
            go_wp2_with fail
            go_at_call 19
            refine (rsum_by HB.out (by rw [HBM.out]; omega)).mono ?_
            rintro e Wc ⟨s4, rfl, hb, hck⟩
            have HS4 := Lib.hid hb
            replace HS3 := Lib.hid (HS3.out.kept hck)
            replace HC : Hid (Chg w Wc nob) := Lib.hid (HC.out.trans hck (fun _ _ h => h))
            replace HTn := Lib.hid (HTn.out.kept hck)
            replace HB := Lib.hid (HB.out.kept hck)
            clear hck hb
            go_wp2_with fail
            go_at_call 18
            refine (bytes_by HS3.out HS4.out).mono ?_
            rw [HB1.out]
            rintro e x ⟨rfl, rfl⟩
            clear HS3 HS4
            obtain ⟨b2, hb2⟩ : ∃ b, decide (hmacL l0 B = T) = b := ⟨_, rfl⟩
            have HB2 := Lib.hid hb2
            clear hb2
            go_wp2_with fail
            go_at_call 14
            refine (hmac_one (HT.out.kept HC.out id) (K0.out.kept HC.out) (by omega) HB.out (by rw [HBM.out]; omega)).mono ?_
            rintro e Wd ⟨s5, rfl, hb, hck⟩
            have HS5 := Lib.hid hb
            replace HC : Hid (Chg w Wd nob) := Lib.hid (HC.out.trans hck (fun _ _ h => h))
            replace HTn := Lib.hid (HTn.out.kept hck)
            replace HB := Lib.hid (HB.out.kept hck)
            clear hck hb
            go_wp2_with fail
            go_at_call 15
            refine (equal_by HS5.out HTn.out).mono ?_
            rw [HB2.out]
            rintro e x ⟨rfl, rfl⟩
            cases b2
            · go_wp2
              go_ret
              exact ⟨rfl, HC.out⟩
            · have hbt : hmacL l0 B = T := of_decide_eq_true HB2.out
              have HBT : Hid (decide (hmacL l0 l1 = hmacL l0 B) = true) := Lib.hid (decide_eq_true (by rw [hbt, HTE.out]))
              clear hbt HS5
              go_wp2_with fail
              go_at_call 20
              refine (rhmac_by (K0.out.kept HC.out) (K1.out.kept HC.out) (by omega) (by omega)).mono ?_
              rintro e We ⟨s6, rfl, hb, hck⟩
              have HS6 := Lib.hid hb
              replace HC : Hid (Chg w We nob) := Lib.hid (HC.out.trans hck (fun _ _ h => h))
              replace HTn := Lib.hid (HTn.out.kept hck)
              replace HB := Lib.hid (HB.out.kept hck)
              clear hck hb
              go_wp2_with fail
              go_at_call 20
              refine (rhmac_by (K0.out.kept HC.out) HB.out (by omega) (by rw [HBM.out]; omega)).mono ?_
              rintro e Wf ⟨s7, rfl, hb, hck⟩
              have HS7 := Lib.hid hb
              replace HS6 := Lib.hid (HS6.out.kept hck)
              replace HC : Hid (Chg w Wf nob) := Lib.hid (HC.out.trans hck (fun _ _ h => h))
              replace HTn := Lib.hid (HTn.out.kept hck)
              replace HB := Lib.hid (HB.out.kept hck)
              clear hck hb
              go_wp2_with fail
              go_at_call 18
              refine (bytes_by HS6.out HS7.out).mono ?_
              rw [HBT.out]
              rintro e x ⟨rfl, rfl⟩
              go_wp2
              go_ret
              exact ⟨rfl, HC.out⟩
  · rcases Classical.em (a4 = 0) with h0 | h0
    · subst h0
      have hin2 : Hid (¬ inLong l0.length l1.length l2.length a3 _) := Lib.hid hin
      clear hin
      go_enter Tryd.func3, Tryd.ntmps3
      go_wp2_with fail
      go_at_call 13
      refine (first4_any w HT.out).mono ?_
      rintro e u1 ⟨rfl, hu1⟩
      have HU1 := Lib.hid hu1
      clear hu1
      go_wp2_with fail
      all_goals first
        | (exfalso; exact hin2.out ⟨by omega, by omega, by omega, by omega, by omega⟩)
        | (go_at_call 13
           refine (first4_any u1 (HT.out.kept HU1.out id)).mono ?_
           rintro e x ⟨rfl, hx⟩
           have HX := Lib.hid hx
           clear hx
           go_wp2
           go_ret
           exact ⟨rfl, HU1.out.trans HX.out (fun _ _ h => h)⟩)
    · have j5 : (a4 == 0) = false := by simpa using h0
      have hin2 : Hid (¬ inLong l0.length l1.length l2.length a3 _) := Lib.hid hin
      clear hin
      go_enter Tryd.func3, Tryd.ntmps3
      go_wp2_with fail
      go_at_call 13
      refine (first4_any w HT.out).mono ?_
      rintro e u1 ⟨rfl, hu1⟩
      have HU1 := Lib.hid hu1
      clear hu1
      go_wp2_with fail
      all_goals first
        | (exfalso; exact hin2.out ⟨by omega, by omega, by omega, by omega, by omega⟩)
        | (go_at_call 13
           refine (first4_any u1 (HT.out.kept HU1.out id)).mono ?_
           rintro e x ⟨rfl, hx⟩
           have HX := Lib.hid hx
           clear hx
           go_wp2
           go_ret
           exact ⟨rfl, HU1.out.trans HX.out (fun _ _ h => h)⟩)
end Go.Proofs.YtajcefdbljbmdaaDoor
