
/-
  Packets: Open; the document's Big of up to eight bytes.
-/
import Derived.Test.YtcgdmidjejmjhaaDoorPk3
import Derived.Handy
namespace Go.Proofs.YtcgdmidjejmjhaaDoor
open Go.RowKit
set_option linter.unusedVariables false
set_option linter.unusedSimpArgs false

theorem wrp_u64v (n : Int) (h₀ : 0 ≤ n) (h₁ : n < 2 ^ 64) : IntKind.u64.wrap n = n := by simp only [IntKind.wrap, IntKind.bits, IntKind.signed]; simp; omega
theorem u64_or8v (x y : Int) (hx₀ : 0 ≤ x) (hx₁ : x < 72057594037927936) (hy₀ : 0 ≤ y) (hy : y < 256) : bits .or .u64 (x * 256) y = x * 256 + y :=
  bits_join .u64 64 (by decide) wrp_u64v 8 (x * 256) y (by omega) (by omega) (by omega) hy₀ (by omega) (by omega)
theorem pow_pos256 : ∀ k : Nat, 0 < (256 : Int) ^ k
  | 0 => by decide
  | k + 1 => by have := pow_pos256 k; rw [Int.pow_succ]; omega
theorem pow_up : ∀ (k d : Nat), (256 : Int) ^ k ≤ 256 ^ (k + d)
  | k, 0 => Int.le_refl _
  | k, d + 1 => by have h1 := pow_up k d; have h2 := pow_pos256 (k + d); rw [← Nat.add_assoc, Int.pow_succ]; omega
theorem numB_take (L : List Int) (i : Nat) (hi : i < L.length) : numB (L.take (i + 1)) = numB (L.take i) * 256 + L.getD i 0 := by rw [take_snoc hi 0, numB_snoc]
theorem numB_u56 (L : List Int) (hb : ∀ x ∈ L, 0 ≤ x ∧ x ≤ 255) (i : Nat) (hi : i < 8) : 0 ≤ numB (L.take i) ∧ numB (L.take i) < 72057594037927936 := by
  obtain ⟨h1, h2⟩ := numB_b (L.take i).length (L.take i) rfl (fun x hx => hb x (List.mem_of_mem_take hx))
  have h3 : (L.take i).length ≤ 7 := by simp; omega
  have h4 : (256 : Int) ^ (L.take i).length ≤ 256 ^ 7 := by have h := pow_up (L.take i).length (7 - (L.take i).length); rwa [show (L.take i).length + (7 - (L.take i).length) = 7 by omega] at h
  have h5 : (256 : Int) ^ 7 = 72057594037927936 := by decide
  exact ⟨h1, by omega⟩
theorem numB_u64 (L : List Int) (hb : ∀ x ∈ L, 0 ≤ x ∧ x ≤ 255) (hl : L.length ≤ 8) : 0 ≤ numB L ∧ numB L ≤ 18446744073709551615 := by
  obtain ⟨h1, h2⟩ := numB_b L.length L rfl hb
  have h4 : (256 : Int) ^ L.length ≤ 256 ^ 8 := by have h := pow_up L.length (8 - L.length); rwa [show L.length + (8 - L.length) = 8 by omega] at h
  have h5 : (256 : Int) ^ 8 = 18446744073709551616 := by decide
  exact ⟨h1, by omega⟩
set_option maxRecDepth 100000 in
set_option maxHeartbeats 1500000 in
theorem big8_any (w : World) (va : Value) (L : List Int) (ha : By w va L) (hl : L.length ≤ 8) :
    Calls Tryd.prog 32 #[va] w fun e w' => e = .returned (.int .u64 (numB L)) ∧ w = w' := by
  obtain ⟨ao, cap, rfl, hc⟩ := ha.form
  have HA := Lib.hid ha
  have h0 : (0 : Int) ≤ (L.length : Int) := by omega
  clear ha
  go_enter Tryd.func32, Tryd.ntmps32
  go_wp2_with fail
  go_loopw [3, 4] (fun nv iv wr => ∃ (i : Nat) (x : Int), i ≤ L.length ∧ nv = .int .u64 x ∧ iv = .int .i64 i ∧ Hid (x = numB (L.take i)) ∧ wr = w) (fun _ iv _ => L.length - (intOf iv).toNat)
  case atStart => exact ⟨0, 0, by omega, rfl, rfl, Lib.hid rfl, rfl⟩
  case round =>
    obtain ⟨i, x, hi, rfl, rfl, HX, rfl⟩ := hrel
    by_cases hil : i < L.length
    · have hii : (i : Int) < (L.length : Int) := by omega
      have hi0 : (0 : Int) ≤ (i : Int) := by omega
      obtain ⟨g, o, rfl, hcell⟩ := HA.out.cell hil
      obtain ⟨b1, b2⟩ := numB_u56 L HA.out.byte i (by omega)
      rw [← HX.out] at b1 b2
      have HS := Lib.hid (numB_take L i hil)
      obtain ⟨c1, c2⟩ := HA.out.byte (L.getD i 0) (by simp [List.getD, hil])
      obtain ⟨y, hy⟩ : ∃ y, L.getD i 0 = y := ⟨_, rfl⟩
      rw [hy] at hcell HS c1 c2
      clear hy
      have hor := u64_or8v x y b1 b2 c1 (by omega)
      have hw := wrp_u64v (x * 256) (by omega) (by omega)
      go_wp2_with fail
      go_roundw
      case rel => exact ⟨i + 1, x * 256 + y, by omega, rfl, by go_num, Lib.hid (by rw [HS.out, ← HX.out]), by first | rfl | trivial⟩
      case measure => simp [intOf]; omega
    · obtain rfl : i = L.length := by omega
      have HE : Hid (x = numB L) := Lib.hid (by rw [HX.out, List.take_of_length_le (Nat.le_refl _)])
      go_wp2
      go_ret
      exact ⟨by rw [HE.out]; rfl, rfl⟩
section
variable {w W : World} {r b : Nat} {T T' : TypeId} {cs cs' : Array Value} {x y z u : Value}
/-- A struct of four cells stored. -/
theorem st4 (h : Blk W r T cs) (hs : cs.size = 4) : Blk ((((W.setCell ⟨r, 0, none⟩ x).setCell ⟨r, 1, none⟩ y).setCell ⟨r, 2, none⟩ z).setCell ⟨r, 3, none⟩ u) r T #[x, y, z, u] := by
  have h4 := (((h.set 0 x).set 1 y).set 2 z).set 3 u
  obtain ⟨l⟩ := cs
  match l, hs with
  | [_, _, _, _], _ => exact h4
theorem ch4 (h : Chg w W nob) (hr : w.heap.size ≤ r) : Chg w ((((W.setCell ⟨r, 0, none⟩ x).setCell ⟨r, 1, none⟩ y).setCell ⟨r, 2, none⟩ z).setCell ⟨r, 3, none⟩ u) nob := (((h.setCell (.inr hr) _).setCell (.inr hr) _).setCell (.inr hr) _).setCell (.inr hr) _
theorem cr4 : Chg W ((((W.setCell ⟨r, 0, none⟩ x).setCell ⟨r, 1, none⟩ y).setCell ⟨r, 2, none⟩ z).setCell ⟨r, 3, none⟩ u) (fun k => k = r) := ((((Chg.refl W (fun k => k = r)).setCell (.inl rfl) _).setCell (.inl rfl) _).setCell (.inl rfl) _).setCell (.inl rfl) _
end
/-- What Open tells: the packet, and why not. -/
def openP (k b : List Int) : Pk := ⟨b.getD 0 0, b.getD 1 0, numB ((b.take 10).drop 2), (b.take (b.length - 16)).drop 10⟩
def openL (k b : List Int) : Pk × Int :=
  if b.length < 26 then (Pk.z, 3)
  else if tagL k (b.take (b.length - 16)) = b.drop (b.length - 16) then (if (openP k b).May then (openP k b, 0) else (Pk.z, 2))
  else (Pk.z, 15)
attribute [local go_sem ↓] run_cut_h run_cut_l bcut_lh
set_option maxRecDepth 100000 in
set_option maxHeartbeats 1500000 in
theorem open_any (w : World) (K B : List Int) (vk vb : Value) (ht : Tab w) (hk : By w vk K) (hb : By w vb B) (hkl : K.length ≤ 1000000) (hbl : B.length ≤ 100000) :
    Calls Tryd.prog 22 #[vk, vb] w fun e w' => ∃ x, e = .returned (.tuple #[pkV (openL K B).1 x, .int .i64 (openL K B).2]) ∧ Bx w w' x (openL K B).1.b := by
  obtain ⟨ab, cb, rfl, hcb⟩ := hb.form
  have HK := Lib.hid hk
  have HB := Lib.hid hb
  have HT := Lib.hid ht
  clear hk hb ht
  have h0 : (0 : Int) ≤ (B.length : Int) := by omega
  have hsz : w.heap.size < (w.alloc (.cells #[.int .i64 0, .int .i64 0, .int .u64 0, .slice none 0 0] 48)).heap.size := by rw [size_al]; omega
  by_cases hs : B.length < 26
  · have HO : Hid (openL K B = (Pk.z, 3)) := Lib.hid (if_pos hs)
    rw [HO.out]
    have hsi : (B.length : Int) - 16 < 10 := by omega
    go_enter Tryd.func22, Tryd.ntmps22
    go_wp2
    go_returns
    exact ⟨_, rfl, (Bx.nil _).newer ((Chg.refl w nob).alloc _)⟩
  · obtain ⟨gb, ob, cb', hab', _, hcl⟩ := HB.out.at0 (by omega)
    cases hab'
    have HCL := Lib.hid hcl
    clear hcl
    obtain ⟨E, hE⟩ : ∃ E, B.length - 16 = E := ⟨_, rfl⟩
    have hEi : (B.length : Int) - 16 = (E : Int) := by omega
    have e0 : (0 : Int) ≤ (E : Int) := by omega
    have e1 : ¬ (E : Int) < 10 := by omega
    have e1' : decide ((E : Int) < 10) = false := by simp; omega
    have e2 : (E : Int) ≤ (B.length : Int) := by omega
    have e3 : (E : Int) ≤ (cb : Int) := by omega
    have hEB : E ≤ B.length := by omega
    have HEL : Hid (B.length = E + 16) := Lib.hid (by omega)
    have HOL : Hid (openL K B = if tagL K (B.take E) = B.drop E then (if (openP K B).May then (openP K B, 0) else (Pk.z, 2)) else (Pk.z, 15)) := Lib.hid (by unfold openL; rw [if_neg hs, hE])
    have HOP : Hid (openP K B = ⟨B.getD 0 0, B.getD 1 0, numB ((B.take 10).drop 2), (B.take E).drop 10⟩) := Lib.hid (by unfold openP; rw [hE])
    have h26 : 26 ≤ B.length := by omega
    clear hE hs
    have HR : Hid (∃ r, openL K B = r) := Lib.hid ⟨_, rfl⟩
    obtain ⟨R, hR⟩ := HR.out
    rw [hR] at HOL ⊢
    clear hR HR
    obtain ⟨bb, hbb⟩ : ∃ x, decide (tagL K (B.take E) = B.drop E) = x := ⟨_, rfl⟩
    have HBB := Lib.hid hbb
    clear hbb
    go_enter Tryd.func22, Tryd.ntmps22
    go_wp2_with fail
    obtain ⟨w1, hw1⟩ : ∃ W, w.alloc (.cells #[.int .i64 0, .int .i64 0, .int .u64 0, .slice none 0 0] 48) = W := ⟨_, rfl⟩
    have HZ1 : Hid (Blk w1 w.heap.size 48 #[.int .i64 0, .int .i64 0, .int .u64 0, .slice none 0 0]) := Lib.hid (by rw [← hw1]; exact Blk.new w _ _)
    have HC1 : Hid (Chg w w1 nob) := Lib.hid (by rw [← hw1]; exact (Chg.refl w nob).alloc _)
    rw [hw1]
    clear hw1 hsz
    refine wp_one [] [4, 5, 9] [] [0, 1, 2, 3, 6, 7, 8, 4, 5, 9, 10, 11] rfl (by kernel_rfl) (fun _ _ _ _ _ h => h) ?_; simp only [List.map_cons, List.map_nil, List.getElem?_toArray, List.getElem?_cons_zero, List.getElem?_cons_succ]
    obtain ⟨wd, hwd⟩ : ∃ W, World.drew w1 = W := ⟨_, rfl⟩
    have HCd : Hid (Chg w1 wd nob) := Lib.hid (by rw [← hwd]; exact (Chg.refl w1 nob).drew)
    have HWd : Hid (Chg w wd nob) := Lib.hid (HC1.out.trans HCd.out (fun _ _ h => h))
    rw [hwd]
    clear hwd
    (repeat (first | (apply can0; (· rfl); (· rfl); (· (intro w'; first | (go_simp; with_reducible rfl) | (go_simp; done))); simp only [Act.put, List.setIfInBounds_toArray, List.set_cons_zero, List.set_cons_succ]) | (apply can1; (· rfl); (· rfl); (· (first | (go_simp; with_reducible rfl) | (go_simp; done))); simp only [Act.put, List.setIfInBounds_toArray, List.set_cons_zero, List.set_cons_succ]) | (apply canN; (· rfl); (· rfl); simp only [Act.put, List.setIfInBounds_toArray, List.set_cons_zero, List.set_cons_succ]) | (apply canN1; (· rfl); (· rfl); simp only [Act.put, List.setIfInBounds_toArray, List.set_cons_zero, List.set_cons_succ]) | (apply can0; (· rfl); (· (go_simp; done)); (· (intro w'; first | (go_simp; with_reducible rfl) | (go_simp; done))); simp only [Act.put, List.setIfInBounds_toArray, List.set_cons_zero, List.set_cons_succ]) | (apply can1; (· rfl); (· (go_simp; done)); (· (first | (go_simp; with_reducible rfl) | (go_simp; done))); simp only [Act.put, List.setIfInBounds_toArray, List.set_cons_zero, List.set_cons_succ]) | (apply canN; (· rfl); (· (go_simp; done)); simp only [Act.put, List.setIfInBounds_toArray, List.set_cons_zero, List.set_cons_succ]) | (apply canN1; (· rfl); (· (go_simp; done)); simp only [Act.put, List.setIfInBounds_toArray, List.set_cons_zero, List.set_cons_succ])))
    refine canW rfl [] rfl (fun K hK => ?_)
    go_simp
    (refine hK _ _ (fun u hu => by cases hu) ?_; clear hK K; try simp only [Act.put, List.setIfInBounds_toArray, List.set_cons_zero, List.set_cons_succ])
    refine canW rfl [] rfl (fun K hK => ?_)
    go_simp
    go_at_call 26
    refine (tag_one (w := wd) (HT.out.kept HWd.out id) (HK.out.kept HWd.out) hkl ((HB.out.kept HWd.out).take hEB) (by simp; omega)).mono ?_
    rintro e w2 ⟨v2, rfl, hb2, hc2⟩
    have HB2 := Lib.hid hb2
    have HW2 : Hid (Chg w w2 nob) := Lib.hid (HWd.out.trans hc2 (fun _ _ h => h))
    have HZ2 : Hid (Blk w2 w.heap.size 48 #[.int .i64 0, .int .i64 0, .int .u64 0, .slice none 0 0]) := Lib.hid (HZ1.out.kept (HCd.out.trans hc2 (fun _ _ h => h)) id)
    clear hb2 hc2
    (refine hK _ _ (fun u hu => by cases hu) ?_; clear hK K; try simp only [Act.put, List.setIfInBounds_toArray, List.set_cons_zero, List.set_cons_succ])
    (repeat (first | (apply can0; (· rfl); (· rfl); (· (intro w'; first | (go_simp; with_reducible rfl) | (go_simp; done))); simp only [Act.put, List.setIfInBounds_toArray, List.set_cons_zero, List.set_cons_succ]) | (apply can1; (· rfl); (· rfl); (· (first | (go_simp; with_reducible rfl) | (go_simp; done))); simp only [Act.put, List.setIfInBounds_toArray, List.set_cons_zero, List.set_cons_succ]) | (apply canN; (· rfl); (· rfl); simp only [Act.put, List.setIfInBounds_toArray, List.set_cons_zero, List.set_cons_succ]) | (apply canN1; (· rfl); (· rfl); simp only [Act.put, List.setIfInBounds_toArray, List.set_cons_zero, List.set_cons_succ]) | (apply can0; (· rfl); (· (go_simp; done)); (· (intro w'; first | (go_simp; with_reducible rfl) | (go_simp; done))); simp only [Act.put, List.setIfInBounds_toArray, List.set_cons_zero, List.set_cons_succ]) | (apply can1; (· rfl); (· (go_simp; done)); (· (first | (go_simp; with_reducible rfl) | (go_simp; done))); simp only [Act.put, List.setIfInBounds_toArray, List.set_cons_zero, List.set_cons_succ]) | (apply canN; (· rfl); (· (go_simp; done)); simp only [Act.put, List.setIfInBounds_toArray, List.set_cons_zero, List.set_cons_succ]) | (apply canN1; (· rfl); (· (go_simp; done)); simp only [Act.put, List.setIfInBounds_toArray, List.set_cons_zero, List.set_cons_succ])))
    refine canW rfl [] rfl (fun K hK => ?_)
    go_simp
    go_at_call 30
    refine (equal_by HB2.out ((HB.out.kept HW2.out).drop hEB)).mono ?_
    rw [HBB.out]
    rintro e x ⟨rfl, rfl⟩
    (refine hK _ _ (fun u hu => by cases hu) ?_; clear hK K; try simp only [Act.put, List.setIfInBounds_toArray, List.set_cons_zero, List.set_cons_succ])
    (repeat (first | (apply can0; (· rfl); (· rfl); (· (intro w'; first | (go_simp; with_reducible rfl) | (go_simp; done))); simp only [Act.put, List.setIfInBounds_toArray, List.set_cons_zero, List.set_cons_succ]) | (apply can1; (· rfl); (· rfl); (· (first | (go_simp; with_reducible rfl) | (go_simp; done))); simp only [Act.put, List.setIfInBounds_toArray, List.set_cons_zero, List.set_cons_succ]) | (apply canN; (· rfl); (· rfl); simp only [Act.put, List.setIfInBounds_toArray, List.set_cons_zero, List.set_cons_succ]) | (apply canN1; (· rfl); (· rfl); simp only [Act.put, List.setIfInBounds_toArray, List.set_cons_zero, List.set_cons_succ]) | (apply can0; (· rfl); (· (go_simp; done)); (· (intro w'; first | (go_simp; with_reducible rfl) | (go_simp; done))); simp only [Act.put, List.setIfInBounds_toArray, List.set_cons_zero, List.set_cons_succ]) | (apply can1; (· rfl); (· (go_simp; done)); (· (first | (go_simp; with_reducible rfl) | (go_simp; done))); simp only [Act.put, List.setIfInBounds_toArray, List.set_cons_zero, List.set_cons_succ]) | (apply canN; (· rfl); (· (go_simp; done)); simp only [Act.put, List.setIfInBounds_toArray, List.set_cons_zero, List.set_cons_succ]) | (apply canN1; (· rfl); (· (go_simp; done)); simp only [Act.put, List.setIfInBounds_toArray, List.set_cons_zero, List.set_cons_succ])))
    refine canE ?_
    have z0 := HZ2.out.cell 0
    have z1 := HZ2.out.cell 1
    have z2 := HZ2.out.cell 2
    have z3 := HZ2.out.cell 3
    simp only [List.getElem?_toArray, List.getElem?_cons_zero, List.getElem?_cons_succ] at z0 z1 z2 z3
    have f0 := HZ2.out.free 0
    have f1 := HZ2.out.free 1
    have f2 := HZ2.out.free 2
    have f3 := HZ2.out.free 3
    cases bb
    · have HRR : Hid (R = (Pk.z, 15)) := Lib.hid (by rw [HOL.out, if_neg (of_decide_eq_false HBB.out)])
      go_wp2
      obtain ⟨wz, hwz⟩ : ∃ W, ((((World.setCell w2 ⟨w.heap.size, 0, none⟩ (.int .i64 0)).setCell ⟨w.heap.size, 1, none⟩ (.int .i64 0)).setCell ⟨w.heap.size, 2, none⟩ (.int .u64 0)).setCell ⟨w.heap.size, 3, none⟩ (.slice none 0 0)) = W := ⟨_, rfl⟩
      have hz : Blk wz w.heap.size 48 #[.int .i64 0, .int .i64 0, .int .u64 0, .slice none 0 0] := by rw [← hwz]; exact st4 HZ2.out rfl
      have HCZ : Hid (Chg w wz nob) := Lib.hid (by rw [← hwz]; exact ch4 HW2.out (Nat.le_refl _))
      rw [hwz]
      clear z0 z1 z2 z3 hwz
      have z0 := hz.cell 0
      have z1 := hz.cell 1
      have z2 := hz.cell 2
      have z3 := hz.cell 3
      simp only [List.getElem?_toArray, List.getElem?_cons_zero, List.getElem?_cons_succ] at z0 z1 z2 z3
      refine bodyPost_ret (v := .tuple #[pkV Pk.z (.slice none 0 0), .int .i64 15]) (by simp [results, Tryd.results22, go_sem, z0, z1, z2, z3, pkV, Pk.z]) rfl ?_
      rw [HRR.out]
      exact ⟨_, rfl, (Bx.nil _).newer HCZ.out⟩
    · have HOM : Hid (R = if (openP K B).May then (openP K B, 0) else (Pk.z, 2)) := Lib.hid (by rw [HOL.out, if_pos (of_decide_eq_true HBB.out)])
      clear HB2 z0 z1 z2 z3 f0 f1 f2 f3 HZ1 HC1 HCd HWd
      obtain ⟨D, hD⟩ : ∃ D, (B.take E).drop 10 = D := ⟨_, rfl⟩
      have HBD : Hid (By w (.slice (addS (some ⟨gb, ob, none⟩) cb 10) (E - 10) (cb - 10)) D) := Lib.hid (by rw [← hD]; exact HB.out.mid (by omega) hEB)
      have HDL : Hid (D.length ≤ 100000) := Lib.hid (by rw [← hD]; simp; omega)
      obtain ⟨H8, hH8⟩ : ∃ D, (B.take 10).drop 2 = D := ⟨_, rfl⟩
      have HBH : Hid (By w (.slice (addS (some ⟨gb, ob, none⟩) cb 2) 8 (cb - 2)) H8) := Lib.hid (by rw [← hH8]; exact HB.out.mid (l := 2) (m := 10) (by omega) (by omega))
      have HHL : Hid (H8.length = 8) := Lib.hid (by rw [← hH8]; simp; omega)
      have hc10 : (10 : Int) ≤ (E : Int) := by omega
      have hb10 : (10 : Int) ≤ (cb : Int) := by omega
      have hb10' : (10 : Int) ≤ (B.length : Int) := by omega
      have hl0 : 0 < B.length := by omega
      have hl1 : 1 < B.length := by omega
      have hl1i : (1 : Int) < (B.length : Int) := by omega
      have c0 := HCL.out 0 (by omega)
      have c1 := HCL.out 1 (by omega)
      rw [Nat.add_zero] at c0
      obtain ⟨d0, hd0⟩ : ∃ x, B.getD 0 0 = x := ⟨_, rfl⟩
      obtain ⟨d1, hd1⟩ : ∃ x, B.getD 1 0 = x := ⟨_, rfl⟩
      have HOQ : Hid (openP K B = ⟨d0, d1, numB H8, D⟩) := Lib.hid (by rw [HOP.out, hD, hH8, hd0, hd1])
      have hd0b := HB.out.byte (B.getD 0 0) (by simp [List.getD, show 0 < B.length by omega])
      have hd1b := HB.out.byte (B.getD 1 0) (by simp [List.getD, show 1 < B.length by omega])
      rw [hd0] at c0 hd0b
      rw [hd1] at c1 hd1b
      obtain ⟨b00, b01⟩ := hd0b
      obtain ⟨b10, b11⟩ := hd1b
      rw [HOQ.out] at HOM
      have C0 := Lib.hid c0
      have C1 := Lib.hid c1
      have i64d0 : IntKind.i64.wrap d0 = d0 := by simp only [IntKind.wrap, IntKind.bits, IntKind.signed]; simp; omega
      have i64d1 : IntKind.i64.wrap d1 = d1 := by simp only [IntKind.wrap, IntKind.bits, IntKind.signed]; simp; omega
      clear hD hH8 hd0 hd1 HOP HOQ c0 c1
      go_upto_region 6 with (fail)
      go_cut [7] (fun pv wx => ∃ (g : Nat) (ax : Option Addr) (cx : Nat), pv = .pointer (some ⟨g, 0, none⟩) ∧ g ≠ w.heap.size ∧ w.heap.size ≤ g ∧ Hid (Blk wx g 48 #[.int .i64 d0, .int .i64 d1, .int .u64 0, .slice ax D.length cx]) ∧ Hid (Blk wx w.heap.size 48 #[.int .i64 0, .int .i64 0, .int .u64 0, .slice none 0 0]) ∧ Hid (Bx w wx (.slice ax D.length cx) D))
      case first =>
        refine wp_lanes [2, 6] [11, 13, 14] [⟨[11, 13, 14], [(11, [2, 6]), (13, [2, 6])], [0, 1, 2, 3, 4, 5, 6, 7, 8, 9, 10, 11, 12, 13, 14]⟩, ⟨[13, 11, 14], [(13, [2, 6]), (11, [2, 6])], [0, 1, 2, 3, 4, 5, 6, 7, 8, 9, 10, 13, 11, 12, 14]⟩] rfl (by kernel_rfl) (fun _ _ _ _ _ h => h) ?_; simp only [wpAll, List.map_cons, List.map_nil, List.getElem?_toArray, List.getElem?_cons_zero, List.getElem?_cons_succ]; refine ⟨?_, ?_, trivial⟩
        all_goals (obtain ⟨wd, hwd⟩ : ∃ W, World.drew w2 = W := ⟨_, rfl⟩)
        all_goals rw [hwd]
        all_goals (have hcd : Chg w2 wd nob := by rw [← hwd]; exact (Chg.refl w2 nob).drew)
        all_goals clear hwd
        all_goals (have hwd : Chg w wd nob := HW2.out.trans hcd (fun _ _ h => h))
        all_goals (have hz : Chg w2 wd nob := hcd)
        all_goals have c0wd := hwd.cell C0.out id
        all_goals have c1wd := hwd.cell C1.out id
        · (repeat (first | (apply can0; (· rfl); (· rfl); (· (intro w'; first | (go_simp; with_reducible rfl) | (go_simp; done))); simp only [Act.put, List.setIfInBounds_toArray, List.set_cons_zero, List.set_cons_succ]) | (apply can1; (· rfl); (· rfl); (· (first | (go_simp; with_reducible rfl) | (go_simp; done))); simp only [Act.put, List.setIfInBounds_toArray, List.set_cons_zero, List.set_cons_succ]) | (apply canN; (· rfl); (· rfl); simp only [Act.put, List.setIfInBounds_toArray, List.set_cons_zero, List.set_cons_succ]) | (apply canN1; (· rfl); (· rfl); simp only [Act.put, List.setIfInBounds_toArray, List.set_cons_zero, List.set_cons_succ]) | (apply can0; (· rfl); (· (go_simp; done)); (· (intro w'; first | (go_simp; with_reducible rfl) | (go_simp; done))); simp only [Act.put, List.setIfInBounds_toArray, List.set_cons_zero, List.set_cons_succ]) | (apply can1; (· rfl); (· (go_simp; done)); (· (first | (go_simp; with_reducible rfl) | (go_simp; done))); simp only [Act.put, List.setIfInBounds_toArray, List.set_cons_zero, List.set_cons_succ]) | (apply canN; (· rfl); (· (go_simp; done)); simp only [Act.put, List.setIfInBounds_toArray, List.set_cons_zero, List.set_cons_succ]) | (apply canN1; (· rfl); (· (go_simp; done)); simp only [Act.put, List.setIfInBounds_toArray, List.set_cons_zero, List.set_cons_succ])))
          refine canW rfl [2, 6] rfl (fun K hK => ?_)
          go_simp
          go_at_call 17
          refine (clone_by (HBD.out.kept hwd) (by have := HDL.out; omega)).mono ?_
          rintro e wa ⟨vx, rfl, hbx⟩
          have hca : Chg w wa nob := hwd.trans hbx.2.1 (fun _ _ h => h)
          have HBX := Lib.hid (hbx.newer hwd)
          replace hz := hz.trans hbx.2.1 (fun _ _ h => h)
          obtain ⟨ax, cx, rfl, _⟩ := hbx.1.form
          clear c0wd c1wd hbx
          have c0wa := hca.cell C0.out id
          have c1wa := hca.cell C1.out id
          (refine hK _ _ (fun u hu => by (simp only [List.mem_cons, List.not_mem_nil, or_false] at hu); (first | (subst hu; exact reRun_mk rfl (by first | (go_simp; with_reducible rfl) | (go_simp; done)) (holds_at rfl)) | ((repeat' (first | (rcases hu with rfl | hu) | (subst hu))) <;> exact reRun_mk rfl (by first | (go_simp; with_reducible rfl) | (go_simp; done)) (holds_at rfl)))) ?_; clear hK K; try simp only [Act.put, List.setIfInBounds_toArray, List.set_cons_zero, List.set_cons_succ])
          (repeat (first | (apply can0; (· rfl); (· rfl); (· (intro w'; first | (go_simp; with_reducible rfl) | (go_simp; done))); simp only [Act.put, List.setIfInBounds_toArray, List.set_cons_zero, List.set_cons_succ]) | (apply can1; (· rfl); (· rfl); (· (first | (go_simp; with_reducible rfl) | (go_simp; done))); simp only [Act.put, List.setIfInBounds_toArray, List.set_cons_zero, List.set_cons_succ]) | (apply canN; (· rfl); (· rfl); simp only [Act.put, List.setIfInBounds_toArray, List.set_cons_zero, List.set_cons_succ]) | (apply canN1; (· rfl); (· rfl); simp only [Act.put, List.setIfInBounds_toArray, List.set_cons_zero, List.set_cons_succ]) | (apply can0; (· rfl); (· (go_simp; done)); (· (intro w'; first | (go_simp; with_reducible rfl) | (go_simp; done))); simp only [Act.put, List.setIfInBounds_toArray, List.set_cons_zero, List.set_cons_succ]) | (apply can1; (· rfl); (· (go_simp; done)); (· (first | (go_simp; with_reducible rfl) | (go_simp; done))); simp only [Act.put, List.setIfInBounds_toArray, List.set_cons_zero, List.set_cons_succ]) | (apply canN; (· rfl); (· (go_simp; done)); simp only [Act.put, List.setIfInBounds_toArray, List.set_cons_zero, List.set_cons_succ]) | (apply canN1; (· rfl); (· (go_simp; done)); simp only [Act.put, List.setIfInBounds_toArray, List.set_cons_zero, List.set_cons_succ])))
          refine canW rfl [2, 6] rfl (fun K hK => ?_)
          go_simp
          obtain ⟨wb, hwb⟩ : ∃ W, World.alloc wa (.cells #[.int .i64 0, .int .i64 0, .int .u64 0, .slice none 0 0] 48) = W := ⟨_, rfl⟩
          have hab : Chg wa wb nob := by rw [← hwb]; exact (Chg.refl wa nob).alloc _
          have hcwwb : Chg w wb nob := hca.trans hab (fun _ _ h => h)
          have hgt := hz.size
          replace hz := hz.trans hab (fun _ _ h => h)
          have HGwb : Hid (Blk wb wa.heap.size 48 #[.int .i64 0, .int .i64 0, .int .u64 0, .slice none 0 0]) := Lib.hid (by rw [← hwb]; exact Blk.new _ _ _)
          rw [hwb]
          clear hwb c0wa c1wa
          have c0wb := hcwwb.cell C0.out id
          have c1wb := hcwwb.cell C1.out id
          have HBX2 := Lib.hid (HBX.out.keptC hab)
          (refine hK _ _ (fun u hu => by (simp only [List.mem_cons, List.not_mem_nil, or_false] at hu); (first | (subst hu; exact reRun_mk rfl (by first | (go_simp; with_reducible rfl) | (go_simp; done)) (holds_at rfl)) | ((repeat' (first | (rcases hu with rfl | hu) | (subst hu))) <;> exact reRun_mk rfl (by first | (go_simp; with_reducible rfl) | (go_simp; done)) (holds_at rfl)))) ?_; clear hK K; try simp only [Act.put, List.setIfInBounds_toArray, List.set_cons_zero, List.set_cons_succ])
          have q0 := HGwb.out.cell 0
          have q1 := HGwb.out.cell 1
          have q2 := HGwb.out.cell 2
          have q3 := HGwb.out.cell 3
          simp only [List.getElem?_toArray, List.getElem?_cons_zero, List.getElem?_cons_succ] at q0 q1 q2 q3
          have r0 := HGwb.out.free 0
          have r1 := HGwb.out.free 1
          have r2 := HGwb.out.free 2
          have r3 := HGwb.out.free 3
          refine canW rfl [] rfl (fun K hK => ?_)
          go_simp
          (refine hK _ _ (fun u hu => by cases hu) ?_; clear hK K; try simp only [Act.put, List.setIfInBounds_toArray, List.set_cons_zero, List.set_cons_succ])
          refine canE ?_
          go_wp2
          go_meet
          have hgn : wa.heap.size ≠ w.heap.size := by have h1 := HZ2.out.lt; omega
          have hgl : w.heap.size ≤ wa.heap.size := by have h1 := HZ2.out.lt; omega
          exact ⟨_, _, _, rfl, hgn, hgl, Lib.hid (st4 HGwb.out rfl), Lib.hid ((HZ2.out.kept hz id).kept cr4 (Ne.symm hgn)), Lib.hid ⟨HBX2.out.1.kept cr4 (fun k hk e => HBX2.out.1.ne HGwb.out (by decide) (e ▸ hk)), ch4 HBX2.out.2.1 hgl, HBX2.out.2.2⟩⟩
        · (repeat (first | (apply can0; (· rfl); (· rfl); (· (intro w'; first | (go_simp; with_reducible rfl) | (go_simp; done))); simp only [Act.put, List.setIfInBounds_toArray, List.set_cons_zero, List.set_cons_succ]) | (apply can1; (· rfl); (· rfl); (· (first | (go_simp; with_reducible rfl) | (go_simp; done))); simp only [Act.put, List.setIfInBounds_toArray, List.set_cons_zero, List.set_cons_succ]) | (apply canN; (· rfl); (· rfl); simp only [Act.put, List.setIfInBounds_toArray, List.set_cons_zero, List.set_cons_succ]) | (apply canN1; (· rfl); (· rfl); simp only [Act.put, List.setIfInBounds_toArray, List.set_cons_zero, List.set_cons_succ]) | (apply can0; (· rfl); (· (go_simp; done)); (· (intro w'; first | (go_simp; with_reducible rfl) | (go_simp; done))); simp only [Act.put, List.setIfInBounds_toArray, List.set_cons_zero, List.set_cons_succ]) | (apply can1; (· rfl); (· (go_simp; done)); (· (first | (go_simp; with_reducible rfl) | (go_simp; done))); simp only [Act.put, List.setIfInBounds_toArray, List.set_cons_zero, List.set_cons_succ]) | (apply canN; (· rfl); (· (go_simp; done)); simp only [Act.put, List.setIfInBounds_toArray, List.set_cons_zero, List.set_cons_succ]) | (apply canN1; (· rfl); (· (go_simp; done)); simp only [Act.put, List.setIfInBounds_toArray, List.set_cons_zero, List.set_cons_succ])))
          refine canW rfl [2, 6] rfl (fun K hK => ?_)
          go_simp
          obtain ⟨wa, hwa⟩ : ∃ W, World.alloc wd (.cells #[.int .i64 0, .int .i64 0, .int .u64 0, .slice none 0 0] 48) = W := ⟨_, rfl⟩
          have hab : Chg wd wa nob := by rw [← hwa]; exact (Chg.refl wd nob).alloc _
          have hcwwa : Chg w wa nob := hwd.trans hab (fun _ _ h => h)
          have hgt := hz.size
          replace hz := hz.trans hab (fun _ _ h => h)
          have HGwa : Hid (Blk wa wd.heap.size 48 #[.int .i64 0, .int .i64 0, .int .u64 0, .slice none 0 0]) := Lib.hid (by rw [← hwa]; exact Blk.new _ _ _)
          rw [hwa]
          clear hwa c0wd c1wd
          have c0wa := hcwwa.cell C0.out id
          have c1wa := hcwwa.cell C1.out id
          (refine hK _ _ (fun u hu => by (simp only [List.mem_cons, List.not_mem_nil, or_false] at hu); (first | (subst hu; exact reRun_mk rfl (by first | (go_simp; with_reducible rfl) | (go_simp; done)) (holds_at rfl)) | ((repeat' (first | (rcases hu with rfl | hu) | (subst hu))) <;> exact reRun_mk rfl (by first | (go_simp; with_reducible rfl) | (go_simp; done)) (holds_at rfl)))) ?_; clear hK K; try simp only [Act.put, List.setIfInBounds_toArray, List.set_cons_zero, List.set_cons_succ])
          refine canW rfl [2, 6] rfl (fun K hK => ?_)
          go_simp
          go_at_call 17
          refine (clone_by (HBD.out.kept hcwwa) (by have := HDL.out; omega)).mono ?_
          rintro e wb ⟨vx, rfl, hbx⟩
          have hcwb : Chg w wb nob := hcwwa.trans hbx.2.1 (fun _ _ h => h)
          have HBX2 := Lib.hid (hbx.newer hcwwa)
          replace hz := hz.trans hbx.2.1 (fun _ _ h => h)
          have HGwb := Lib.hid (HGwa.out.kept hbx.2.1 id)
          obtain ⟨ax, cx, rfl, _⟩ := hbx.1.form
          clear c0wa c1wa hbx
          have c0wb := hcwb.cell C0.out id
          have c1wb := hcwb.cell C1.out id
          (refine hK _ _ (fun u hu => by (simp only [List.mem_cons, List.not_mem_nil, or_false] at hu); (first | (subst hu; exact reRun_mk rfl (by first | (go_simp; with_reducible rfl) | (go_simp; done)) (holds_at rfl)) | ((repeat' (first | (rcases hu with rfl | hu) | (subst hu))) <;> exact reRun_mk rfl (by first | (go_simp; with_reducible rfl) | (go_simp; done)) (holds_at rfl)))) ?_; clear hK K; try simp only [Act.put, List.setIfInBounds_toArray, List.set_cons_zero, List.set_cons_succ])
          (repeat (first | (apply can0; (· rfl); (· rfl); (· (intro w'; first | (go_simp; with_reducible rfl) | (go_simp; done))); simp only [Act.put, List.setIfInBounds_toArray, List.set_cons_zero, List.set_cons_succ]) | (apply can1; (· rfl); (· rfl); (· (first | (go_simp; with_reducible rfl) | (go_simp; done))); simp only [Act.put, List.setIfInBounds_toArray, List.set_cons_zero, List.set_cons_succ]) | (apply canN; (· rfl); (· rfl); simp only [Act.put, List.setIfInBounds_toArray, List.set_cons_zero, List.set_cons_succ]) | (apply canN1; (· rfl); (· rfl); simp only [Act.put, List.setIfInBounds_toArray, List.set_cons_zero, List.set_cons_succ]) | (apply can0; (· rfl); (· (go_simp; done)); (· (intro w'; first | (go_simp; with_reducible rfl) | (go_simp; done))); simp only [Act.put, List.setIfInBounds_toArray, List.set_cons_zero, List.set_cons_succ]) | (apply can1; (· rfl); (· (go_simp; done)); (· (first | (go_simp; with_reducible rfl) | (go_simp; done))); simp only [Act.put, List.setIfInBounds_toArray, List.set_cons_zero, List.set_cons_succ]) | (apply canN; (· rfl); (· (go_simp; done)); simp only [Act.put, List.setIfInBounds_toArray, List.set_cons_zero, List.set_cons_succ]) | (apply canN1; (· rfl); (· (go_simp; done)); simp only [Act.put, List.setIfInBounds_toArray, List.set_cons_zero, List.set_cons_succ])))
          have q0 := HGwb.out.cell 0
          have q1 := HGwb.out.cell 1
          have q2 := HGwb.out.cell 2
          have q3 := HGwb.out.cell 3
          simp only [List.getElem?_toArray, List.getElem?_cons_zero, List.getElem?_cons_succ] at q0 q1 q2 q3
          have r0 := HGwb.out.free 0
          have r1 := HGwb.out.free 1
          have r2 := HGwb.out.free 2
          have r3 := HGwb.out.free 3
          refine canW rfl [] rfl (fun K hK => ?_)
          go_simp
          (refine hK _ _ (fun u hu => by cases hu) ?_; clear hK K; try simp only [Act.put, List.setIfInBounds_toArray, List.set_cons_zero, List.set_cons_succ])
          refine canE ?_
          go_wp2
          go_meet
          have hgn : wd.heap.size ≠ w.heap.size := by have h1 := HZ2.out.lt; omega
          have hgl : w.heap.size ≤ wd.heap.size := by have h1 := HZ2.out.lt; omega
          exact ⟨_, _, _, rfl, hgn, hgl, Lib.hid (st4 HGwb.out rfl), Lib.hid ((HZ2.out.kept hz id).kept cr4 (Ne.symm hgn)), Lib.hid ⟨HBX2.out.1.kept cr4 (fun k hk e => HBX2.out.1.ne HGwb.out (by decide) (e ▸ hk)), ch4 HBX2.out.2.1 hgl, HBX2.out.2.2⟩⟩
      case rest =>
        obtain ⟨g, ax, cx, rfl, hgr, hgw, HG, HZ, HBX⟩ := hcut
        obtain ⟨gh, oh, ch, he, _, hcell⟩ := HBH.out.at0 (by rw [HHL.out]; omega)
        injection he with he1 he2 he3
        have HCH := Lib.hid hcell
        have HA2 := Lib.hid he1
        clear hcell he1 he2 he3
        go_wp2_with fail
        rw [HA2.out]
        go_loopw [9, 46] (fun _ iv wr => ∃ (i : Nat) (x : Int), i ≤ 8 ∧ iv = .int .i64 i ∧ Hid (x = numB (H8.take i)) ∧ Hid (Blk wr g 48 #[.int .i64 d0, .int .i64 d1, .int .u64 x, .slice ax D.length cx]) ∧ Hid (Blk wr w.heap.size 48 #[.int .i64 0, .int .i64 0, .int .u64 0, .slice none 0 0]) ∧ Hid (Bx w wr (.slice ax D.length cx) D)) (fun _ iv _ => 8 - (intOf iv).toNat)
        case atStart => exact ⟨0, 0, by omega, rfl, Lib.hid rfl, HG, HZ, HBX⟩
        case round =>
          obtain ⟨i, x, hi, rfl, HX, HG1, HZ1, HB1⟩ := hrel
          clear HG HZ HBX
          have q0 := HG1.out.cell 0
          have q1 := HG1.out.cell 1
          have q2 := HG1.out.cell 2
          have q3 := HG1.out.cell 3
          simp only [List.getElem?_toArray, List.getElem?_cons_zero, List.getElem?_cons_succ] at q0 q1 q2 q3
          by_cases hil : i < 8
          · have hii : (i : Int) < 8 := by omega
            have hi0 : (0 : Int) ≤ (i : Int) := by omega
            have hcc := HB1.out.2.1.cell (HCH.out i (by rw [HHL.out]; omega)) id
            have r2 := HG1.out.free 2
            obtain ⟨b1, b2⟩ := numB_u56 H8 HBH.out.byte i (by omega)
            rw [← HX.out] at b1 b2
            have HS := Lib.hid (numB_take H8 i (by rw [HHL.out]; omega))
            obtain ⟨y1, y2⟩ := HBH.out.byte (H8.getD i 0) (by simp [List.getD, show i < H8.length by rw [HHL.out]; omega])
            obtain ⟨y, hy⟩ : ∃ y, H8.getD i 0 = y := ⟨_, rfl⟩
            rw [hy] at hcc HS y1 y2
            clear hy
            have hor := u64_or8v x y b1 b2 y1 (by omega)
            have hw := wrp_u64v (x * 256) (by omega) (by omega)
            have HG3 : Hid (Blk (wr.setCell ⟨g, 2, none⟩ (.int .u64 (x * 256 + y))) g 48 #[.int .i64 d0, .int .i64 d1, .int .u64 (x * 256 + y), .slice ax D.length cx]) := Lib.hid (HG1.out.set 2 _)
            have HZ3 := Lib.hid (HZ1.out.other (p := ⟨g, 2, none⟩) (Ne.symm hgr) (.int .u64 (x * 256 + y)))
            have HB3 : Hid (Bx w (wr.setCell ⟨g, 2, none⟩ (.int .u64 (x * 256 + y))) (.slice ax D.length cx) D) := Lib.hid ⟨HB1.out.1.setOther (p := ⟨g, 2, none⟩) (HB1.out.1.ne HG1.out (by decide)) _, HB1.out.2.1.setCell (.inr hgw) _, HB1.out.2.2⟩
            go_wp2_with fail
            go_roundw
            case rel => exact ⟨i + 1, x * 256 + y, by omega, by go_num, Lib.hid (by rw [HS.out, ← HX.out]), HG3, HZ3, HB3⟩
            case measure => simp [intOf]; omega
          · obtain rfl : i = 8 := by omega
            have HX8 : Hid (x = numB H8) := Lib.hid (by rw [HX.out, List.take_of_length_le (by rw [HHL.out]; exact Nat.le_refl _)])
            have HDB : Hid (∀ x ∈ D, 0 ≤ x ∧ x ≤ 255) := Lib.hid HBD.out.byte
            go_wp2_with fail
            go_at_call 16
            refine (may_any wr ⟨d0, d1, x, D⟩ (.slice ax D.length cx) (By.ofBx HB1.out HDB.out)).mono ?_
            rintro e w5 ⟨rfl, hc5⟩
            have HG5 := Lib.hid (HG1.out.kept hc5 id)
            have HZ5 := Lib.hid (HZ1.out.kept hc5 id)
            have HB5 := Lib.hid (HB1.out.keptC hc5)
            clear hc5 q0 q1 q2 q3 HG1 HZ1 HB1
            have q0 := HG5.out.cell 0
            have q1 := HG5.out.cell 1
            have q2 := HG5.out.cell 2
            have q3 := HG5.out.cell 3
            have z0 := HZ5.out.cell 0
            have z1 := HZ5.out.cell 1
            have z2 := HZ5.out.cell 2
            have z3 := HZ5.out.cell 3
            simp only [List.getElem?_toArray, List.getElem?_cons_zero, List.getElem?_cons_succ] at q0 q1 q2 q3 z0 z1 z2 z3
            have f0 := HZ5.out.free 0
            have f1 := HZ5.out.free 1
            have f2 := HZ5.out.free 2
            have f3 := HZ5.out.free 3
            rw [← HX8.out] at HOM
            by_cases hmy : Pk.May ⟨d0, d1, x, D⟩
            · have HRR : Hid (R = (⟨d0, d1, x, D⟩, 0)) := Lib.hid (by rw [HOM.out, if_pos hmy])
              rw [decide_eq_true hmy]
              go_wp2
              obtain ⟨wz, hwz⟩ : ∃ W, ((((World.setCell w5 ⟨w.heap.size, 0, none⟩ (.int .i64 d0)).setCell ⟨w.heap.size, 1, none⟩ (.int .i64 d1)).setCell ⟨w.heap.size, 2, none⟩ (.int .u64 x)).setCell ⟨w.heap.size, 3, none⟩ (.slice ax D.length cx)) = W := ⟨_, rfl⟩
              have hz : Blk wz w.heap.size 48 #[.int .i64 d0, .int .i64 d1, .int .u64 x, .slice ax D.length cx] := by rw [← hwz]; exact st4 HZ5.out rfl
              have HBZ : Hid (Bx w wz (.slice ax D.length cx) D) := Lib.hid (by
                rw [← hwz]
                exact ⟨HB5.out.1.kept cr4 (fun k hk e => HB5.out.1.ne HZ5.out (by decide) (e ▸ hk)), ch4 HB5.out.2.1 (Nat.le_refl _), HB5.out.2.2⟩)
              rw [hwz]
              clear z0 z1 z2 z3 hwz
              have z0 := hz.cell 0
              have z1 := hz.cell 1
              have z2 := hz.cell 2
              have z3 := hz.cell 3
              simp only [List.getElem?_toArray, List.getElem?_cons_zero, List.getElem?_cons_succ] at z0 z1 z2 z3
              refine bodyPost_ret (v := .tuple #[pkV ⟨d0, d1, x, D⟩ (.slice ax D.length cx), .int .i64 0]) (by simp [results, Tryd.results22, go_sem, z0, z1, z2, z3, pkV]) rfl ?_
              rw [HRR.out]
              exact ⟨_, rfl, HBZ.out⟩
            · have HRR : Hid (R = (Pk.z, 2)) := Lib.hid (by rw [HOM.out, if_neg hmy])
              rw [decide_eq_false hmy]
              have HW5 : Hid (Chg w w5 nob) := Lib.hid HB5.out.2.1
              go_wp2
              obtain ⟨wz, hwz⟩ : ∃ W, ((((World.setCell w5 ⟨w.heap.size, 0, none⟩ (.int .i64 0)).setCell ⟨w.heap.size, 1, none⟩ (.int .i64 0)).setCell ⟨w.heap.size, 2, none⟩ (.int .u64 0)).setCell ⟨w.heap.size, 3, none⟩ (.slice none 0 0)) = W := ⟨_, rfl⟩
              have hz : Blk wz w.heap.size 48 #[.int .i64 0, .int .i64 0, .int .u64 0, .slice none 0 0] := by rw [← hwz]; exact st4 HZ5.out rfl
              have HCZ : Hid (Chg w wz nob) := Lib.hid (by rw [← hwz]; exact ch4 HW5.out (Nat.le_refl _))
              rw [hwz]
              clear z0 z1 z2 z3 hwz
              have z0 := hz.cell 0
              have z1 := hz.cell 1
              have z2 := hz.cell 2
              have z3 := hz.cell 3
              simp only [List.getElem?_toArray, List.getElem?_cons_zero, List.getElem?_cons_succ] at z0 z1 z2 z3
              refine bodyPost_ret (v := .tuple #[pkV Pk.z (.slice none 0 0), .int .i64 2]) (by simp [results, Tryd.results22, go_sem, z0, z1, z2, z3, pkV, Pk.z]) rfl ?_
              rw [HRR.out]
              exact ⟨_, rfl, (Bx.nil _).newer HCZ.out⟩
end Go.Proofs.YtcgdmidjejmjhaaDoor
