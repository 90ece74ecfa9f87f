/-
  The document's screens: a title's signs; may a screen be.
-/
import Derived.Test.YtmbdpcamhkdkmaaGreatDoorMg19
import Derived.Test.YtmbdpcamhkdkmaaGreatDoorMg7
namespace Go.Proofs.YtmbdpcamhkdkmaaGreatDoor
open Go.RowKit
set_option linter.unusedVariables false
set_option linter.unusedSimpArgs false

theorem u_u8 : Tryz.prog.underlying 5 = some (.int .u8) := by kernel_rfl
/-- '[]byte(s)'. -/
theorem to_bytes (w : World) (s : ByteArray) : ∃ v w', (convert 9 25 (.string s)).run Tryz.prog w = .ok v w' ∧ Rd w' 1 v (numsS s).length (bytesV (numsS s)) ∧ NilOk v ∧ Chg w w' nob ∧ ∀ k, blkOf v k → w.heap.size ≤ k := by
  refine ⟨_, _, run_bytes_of_string (P := Tryz.prog) w 9 25 5 s u_string u_bytes u_u8, ?_, ?_, ((Chg.refl w nob).drew).alloc _, ?_⟩
  rotate_left
  · intro n c h; cases h
  · intro k hk; cases hk; exact Nat.le_refl _
  have hge := grownCap_ge w s.size 0 5
  refine ⟨_, _, by rw [numsS_len], by rw [numsS_len]; exact hge, by rw [bytesV, List.length_map, Nat.mul_one], fun j u hu => ⟨w.heap.size, 0, rfl, ?_⟩⟩
  have hj := (List.getElem?_eq_some_iff.1 hu).1
  simp only [bytesV, List.length_map, numsS_len] at hj
  rw [Nat.zero_add, cell_of_row _ w.heap.size j _ _ _ (heap_alloc_new w.drew _)]
  rw [bytesRow, Array.getElem?_append_left (by rw [Array.size_map]; exact hj)]
  rw [bytesV, numsS, List.map_map, List.getElem?_map, Array.getElem?_toList] at hu
  rw [Array.getElem?_map]
  exact hu
def okRunes (xs : List Int) : Bool := decide ((runD [] xs).1 = []) && decide (encL (runD [] xs).2 = xs)
set_option maxRecDepth 100000 in
set_option maxHeartbeats 4000000 in
theorem rrunes_any (w : World) (s : ByteArray) (hs : s.size ≤ 100000) : Calls Tryz.prog 45 #[.string s] w fun e w' =>
    ∃ v, e = .returned (.tuple #[v, .bool (okRunes (numsS s))]) ∧ Own w' 21 1 v (runD [] (numsS s)).2.length (runesV (runD [] (numsS s)).2) ∧ Chg w w' nob := by
  have hby := numsS_byte s
  have hln := numsS_len s
  have hr2 := runD_len (numsS s) []
  have hst : Hid (strOfNums (numsS s) = s) := Lib.hid (str_numsS s)
  obtain ⟨xs, hxs⟩ : ∃ xs, numsS s = xs := ⟨_, rfl⟩
  obtain ⟨vb, wb, hcv, hrd, hnk, hcb, hfb⟩ := to_bytes (w.alloc (.cells #[.slice none 0 0] 97)) s
  rw [hxs] at hby hln hr2 hst hrd ⊢
  have HD : Hid (RDec (w.alloc (.cells #[.slice none 0 0] 97)) w.heap.size [] (fun k => k = w.heap.size ∨ blkOf (.slice none 0 0) k)) := Lib.hid ⟨.slice none 0 0, Blk.new w _ _, World.ownsRow_nil _ _ _ _, rfl⟩
  have HRD := Lib.hid hrd
  have HBY := Lib.hid hby
  have HCB := Lib.hid hcb
  have HNK := Lib.hid hnk
  have HSZ : Hid (w.heap.size < (w.alloc (.cells #[.slice none 0 0] 97)).heap.size) := Lib.hid (by simp)
  clear hrd hby hxs hcb hnk hfb
  obtain ⟨P1, hP1⟩ : ∃ p, (runD [] xs).1 = p := ⟨_, rfl⟩
  obtain ⟨L1, hL1⟩ : ∃ p, (runD [] xs).2 = p := ⟨_, rfl⟩
  have hok : Hid (okRunes xs = (decide (P1 = []) && decide (encL L1 = xs))) := Lib.hid (by rw [okRunes, hP1, hL1])
  rw [hL1] at hr2 ⊢
  have HP := Lib.hid (And.intro hP1 hL1)
  clear hP1 hL1
  go_enter Tryz.func45, Tryz.ntmps45
  go_wp2_with fail
  go_at_call 66
  refine (rwrite_any wb w.heap.size _ [] vb xs (HD.out.kept HCB.out (fun _ _ => id)) rfl HRD.out HNK.out (by simpa using HBY.out) (by simp) (by omega)).mono ?_
  rw [HP.out.1, HP.out.2]
  rintro e w1 ⟨v, rfl, ho, hc1, ⟨F', hd, hF'⟩, hfr⟩
  obtain ⟨vp, hbp, hop, _⟩ := hd
  have hl0 := hop.1
  obtain ⟨ap, cp, rfl, _⟩ := hop.form
  have hcp := hbp.cell 0
  simp only [List.getElem?_toArray, List.getElem?_cons_zero] at hcp
  have HC1 : Hid (Chg w w1 nob) := Lib.hid (by
    have h1 : Chg w wb nob := ((Chg.refl w nob).alloc _).trans HCB.out (fun _ _ h => h)
    refine h1.trans hc1 (fun i hi h => ?_)
    rcases h with rfl | h
    · exact absurd hi (Nat.lt_irrefl _)
    · cases h)
  have HO := Lib.hid ho
  have HOP := Lib.hid hop
  clear hc1 ho hop hbp hF' hfr
  obtain ⟨al, cl, rfl, _⟩ := HO.out.form
  cases P1 with
  | nil =>
    go_wp2_with fail
    refine wp_one [4] [9, 10] [] [0, 1, 2, 3, 4, 5, 6, 7, 8, 11, 9, 14, 10, 12, 13, 15] rfl (by kernel_rfl) (fun _ _ _ _ _ h => h) ?_; simp only [List.map_cons, List.map_nil, List.getElem?_toArray, List.getElem?_cons_zero, List.getElem?_cons_succ]
    (repeat (first | (apply can0; (· rfl); (· rfl); (· (intro w'; first | (go_simp; with_reducible rfl) | (go_simp; done))); simp only [Act.put, List.setIfInBounds_toArray, List.set_cons_zero, List.set_cons_succ]) | (apply can1; (· rfl); (· rfl); (· (first | (go_simp; with_reducible rfl) | (go_simp; done))); simp only [Act.put, List.setIfInBounds_toArray, List.set_cons_zero, List.set_cons_succ]) | (apply canN; (· rfl); (· rfl); simp only [Act.put, List.setIfInBounds_toArray, List.set_cons_zero, List.set_cons_succ]) | (apply canN1; (· rfl); (· rfl); simp only [Act.put, List.setIfInBounds_toArray, List.set_cons_zero, List.set_cons_succ]) | (apply can0; (· rfl); (· (go_simp; done)); (· (intro w'; first | (go_simp; with_reducible rfl) | (go_simp; done))); simp only [Act.put, List.setIfInBounds_toArray, List.set_cons_zero, List.set_cons_succ]) | (apply can1; (· rfl); (· (go_simp; done)); (· (first | (go_simp; with_reducible rfl) | (go_simp; done))); simp only [Act.put, List.setIfInBounds_toArray, List.set_cons_zero, List.set_cons_succ]) | (apply canN; (· rfl); (· (go_simp; done)); simp only [Act.put, List.setIfInBounds_toArray, List.set_cons_zero, List.set_cons_succ]) | (apply canN1; (· rfl); (· (go_simp; done)); simp only [Act.put, List.setIfInBounds_toArray, List.set_cons_zero, List.set_cons_succ])))
    refine canW rfl [] rfl (fun K hK => ?_)
    go_simp
    go_at_call 67
    refine (refEncode_any w1.drew _ L1 (HO.out.kept ((Chg.refl w1 nob).drew) (fun _ _ => id)).rd (by omega)).mono ?_
    rintro e w2 ⟨ve, rfl, he, hc2, _⟩
    have hcv2 := rd_string w2 ve (encL L1) he.rd
    have HC2 : Hid (Chg w w2 nob ∧ Chg w1 w2 nob) := Lib.hid ⟨HC1.out.drew.trans hc2 (fun _ _ h => h), (Chg.refl w1 nob).drew.trans hc2 (fun _ _ h => h)⟩
    clear he hc2
    (refine hK _ _ (fun u hu => by cases hu) ?_; clear hK K; try simp only [Act.put, List.setIfInBounds_toArray, List.set_cons_zero, List.set_cons_succ])
    (repeat (first | (apply can0; (· rfl); (· rfl); (· (intro w'; first | (go_simp; with_reducible rfl) | (go_simp; done))); simp only [Act.put, List.setIfInBounds_toArray, List.set_cons_zero, List.set_cons_succ]) | (apply can1; (· rfl); (· rfl); (· (first | (go_simp; with_reducible rfl) | (go_simp; done))); simp only [Act.put, List.setIfInBounds_toArray, List.set_cons_zero, List.set_cons_succ]) | (apply canN; (· rfl); (· rfl); simp only [Act.put, List.setIfInBounds_toArray, List.set_cons_zero, List.set_cons_succ]) | (apply canN1; (· rfl); (· rfl); simp only [Act.put, List.setIfInBounds_toArray, List.set_cons_zero, List.set_cons_succ]) | (apply can0; (· rfl); (· (go_simp; done)); (· (intro w'; first | (go_simp; with_reducible rfl) | (go_simp; done))); simp only [Act.put, List.setIfInBounds_toArray, List.set_cons_zero, List.set_cons_succ]) | (apply can1; (· rfl); (· (go_simp; done)); (· (first | (go_simp; with_reducible rfl) | (go_simp; done))); simp only [Act.put, List.setIfInBounds_toArray, List.set_cons_zero, List.set_cons_succ]) | (apply canN; (· rfl); (· (go_simp; done)); simp only [Act.put, List.setIfInBounds_toArray, List.set_cons_zero, List.set_cons_succ]) | (apply canN1; (· rfl); (· (go_simp; done)); simp only [Act.put, List.setIfInBounds_toArray, List.set_cons_zero, List.set_cons_succ])))
    refine canW rfl [] rfl (fun K hK => ?_)
    go_simp
    (refine hK _ _ (fun u hu => by cases hu) ?_; clear hK K; try simp only [Act.put, List.setIfInBounds_toArray, List.set_cons_zero, List.set_cons_succ])
    (repeat (first | (apply can0; (· rfl); (· rfl); (· (intro w'; first | (go_simp; with_reducible rfl) | (go_simp; done))); simp only [Act.put, List.setIfInBounds_toArray, List.set_cons_zero, List.set_cons_succ]) | (apply can1; (· rfl); (· rfl); (· (first | (go_simp; with_reducible rfl) | (go_simp; done))); simp only [Act.put, List.setIfInBounds_toArray, List.set_cons_zero, List.set_cons_succ]) | (apply canN; (· rfl); (· rfl); simp only [Act.put, List.setIfInBounds_toArray, List.set_cons_zero, List.set_cons_succ]) | (apply canN1; (· rfl); (· rfl); simp only [Act.put, List.setIfInBounds_toArray, List.set_cons_zero, List.set_cons_succ]) | (apply can0; (· rfl); (· (go_simp; done)); (· (intro w'; first | (go_simp; with_reducible rfl) | (go_simp; done))); simp only [Act.put, List.setIfInBounds_toArray, List.set_cons_zero, List.set_cons_succ]) | (apply can1; (· rfl); (· (go_simp; done)); (· (first | (go_simp; with_reducible rfl) | (go_simp; done))); simp only [Act.put, List.setIfInBounds_toArray, List.set_cons_zero, List.set_cons_succ]) | (apply canN; (· rfl); (· (go_simp; done)); simp only [Act.put, List.setIfInBounds_toArray, List.set_cons_zero, List.set_cons_succ]) | (apply canN1; (· rfl); (· (go_simp; done)); simp only [Act.put, List.setIfInBounds_toArray, List.set_cons_zero, List.set_cons_succ])))
    refine canE ?_
    go_wp2
    go_ret2
    refine ⟨_, ?_, HO.out.kept HC2.out.2 (fun _ _ => id), HC2.out.1⟩
    have hd : ((strOfNums (encL L1)).toList == s.toList) = decide (encL L1 = xs) := by
      rw [← hst.out, Bool.eq_iff_iff]
      simp only [beq_iff_eq, decide_eq_true_eq]
      exact ⟨fun h => strOfNums_inj (encL_byte _) HBY.out (toList_inj h), fun h => by rw [h]⟩
    rw [hok.out]
    show Ending.returned (.tuple #[_, Value.bool _]) = _
    rw [hd]
    rfl
  | cons p ps =>
    go_wp2_with fail
    refine wp_one [4] [9, 10] [] [0, 1, 2, 3, 4, 5, 6, 7, 8, 11, 9, 14, 10, 12, 13, 15] rfl (by kernel_rfl) (fun _ _ _ _ _ h => h) ?_; simp only [List.map_cons, List.map_nil, List.getElem?_toArray, List.getElem?_cons_zero, List.getElem?_cons_succ]
    (repeat (first | (apply can0; (· rfl); (· rfl); (· (intro w'; first | (go_simp; with_reducible rfl) | (go_simp; done))); simp only [Act.put, List.setIfInBounds_toArray, List.set_cons_zero, List.set_cons_succ]) | (apply can1; (· rfl); (· rfl); (· (first | (go_simp; with_reducible rfl) | (go_simp; done))); simp only [Act.put, List.setIfInBounds_toArray, List.set_cons_zero, List.set_cons_succ]) | (apply canN; (· rfl); (· rfl); simp only [Act.put, List.setIfInBounds_toArray, List.set_cons_zero, List.set_cons_succ]) | (apply canN1; (· rfl); (· rfl); simp only [Act.put, List.setIfInBounds_toArray, List.set_cons_zero, List.set_cons_succ]) | (apply can0; (· rfl); (· (go_simp; done)); (· (intro w'; first | (go_simp; with_reducible rfl) | (go_simp; done))); simp only [Act.put, List.setIfInBounds_toArray, List.set_cons_zero, List.set_cons_succ]) | (apply can1; (· rfl); (· (go_simp; done)); (· (first | (go_simp; with_reducible rfl) | (go_simp; done))); simp only [Act.put, List.setIfInBounds_toArray, List.set_cons_zero, List.set_cons_succ]) | (apply canN; (· rfl); (· (go_simp; done)); simp only [Act.put, List.setIfInBounds_toArray, List.set_cons_zero, List.set_cons_succ]) | (apply canN1; (· rfl); (· (go_simp; done)); simp only [Act.put, List.setIfInBounds_toArray, List.set_cons_zero, List.set_cons_succ])))
    refine canM rfl [] rfl rfl (fun u hu => by cases hu) ?_
    (repeat (first | (apply can0; (· rfl); (· rfl); (· (intro w'; first | (go_simp; with_reducible rfl) | (go_simp; done))); simp only [Act.put, List.setIfInBounds_toArray, List.set_cons_zero, List.set_cons_succ]) | (apply can1; (· rfl); (· rfl); (· (first | (go_simp; with_reducible rfl) | (go_simp; done))); simp only [Act.put, List.setIfInBounds_toArray, List.set_cons_zero, List.set_cons_succ]) | (apply canN; (· rfl); (· rfl); simp only [Act.put, List.setIfInBounds_toArray, List.set_cons_zero, List.set_cons_succ]) | (apply canN1; (· rfl); (· rfl); simp only [Act.put, List.setIfInBounds_toArray, List.set_cons_zero, List.set_cons_succ]) | (apply can0; (· rfl); (· (go_simp; done)); (· (intro w'; first | (go_simp; with_reducible rfl) | (go_simp; done))); simp only [Act.put, List.setIfInBounds_toArray, List.set_cons_zero, List.set_cons_succ]) | (apply can1; (· rfl); (· (go_simp; done)); (· (first | (go_simp; with_reducible rfl) | (go_simp; done))); simp only [Act.put, List.setIfInBounds_toArray, List.set_cons_zero, List.set_cons_succ]) | (apply canN; (· rfl); (· (go_simp; done)); simp only [Act.put, List.setIfInBounds_toArray, List.set_cons_zero, List.set_cons_succ]) | (apply canN1; (· rfl); (· (go_simp; done)); simp only [Act.put, List.setIfInBounds_toArray, List.set_cons_zero, List.set_cons_succ])))
    refine canM rfl [] rfl rfl (fun u hu => by cases hu) ?_
    (repeat (first | (apply can0; (· rfl); (· rfl); (· (intro w'; first | (go_simp; with_reducible rfl) | (go_simp; done))); simp only [Act.put, List.setIfInBounds_toArray, List.set_cons_zero, List.set_cons_succ]) | (apply can1; (· rfl); (· rfl); (· (first | (go_simp; with_reducible rfl) | (go_simp; done))); simp only [Act.put, List.setIfInBounds_toArray, List.set_cons_zero, List.set_cons_succ]) | (apply canN; (· rfl); (· rfl); simp only [Act.put, List.setIfInBounds_toArray, List.set_cons_zero, List.set_cons_succ]) | (apply canN1; (· rfl); (· rfl); simp only [Act.put, List.setIfInBounds_toArray, List.set_cons_zero, List.set_cons_succ]) | (apply can0; (· rfl); (· (go_simp; done)); (· (intro w'; first | (go_simp; with_reducible rfl) | (go_simp; done))); simp only [Act.put, List.setIfInBounds_toArray, List.set_cons_zero, List.set_cons_succ]) | (apply can1; (· rfl); (· (go_simp; done)); (· (first | (go_simp; with_reducible rfl) | (go_simp; done))); simp only [Act.put, List.setIfInBounds_toArray, List.set_cons_zero, List.set_cons_succ]) | (apply canN; (· rfl); (· (go_simp; done)); simp only [Act.put, List.setIfInBounds_toArray, List.set_cons_zero, List.set_cons_succ]) | (apply canN1; (· rfl); (· (go_simp; done)); simp only [Act.put, List.setIfInBounds_toArray, List.set_cons_zero, List.set_cons_succ])))
    refine canE ?_
    go_wp2
    go_ret2
    refine ⟨_, ?_, HO.out.kept ((Chg.refl w1 nob).drew) (fun _ _ => id), HC1.out.drew⟩
    rw [hok.out]
    rfl
theorem titleF_nums (s : ByteArray) : titleF s = (okRunes (numsS s) && decide ((runD [] (numsS s)).2.length ≤ 64) && (runD [] (numsS s)).2.all okSign) := by
  conv => lhs; rw [← str_numsS s]
  rw [title_same _ (numsS_byte s)]
  rfl
set_option maxRecDepth 100000 in
set_option maxHeartbeats 8000000 in
theorem rmayscr_any (w : World) (r c y x : Int) (h : Bool) (t : ByteArray) (va : Value) (l : List Ce) (ha : Rd w 5 va l.length (cellsV l)) (hl : l.length ≤ 1000000) (hs : t.size ≤ 100000) :
    Calls Tryz.prog 18 #[scV r c va y x h t] w fun e w' => e = .returned (.bool (mayS r c l y x t)) ∧ Chg w w' nob := by
  obtain ⟨a1, c1, rfl, hn1, _⟩ := ha.form
  have HC := Lib.hid ha
  have htn := titleF_nums t
  have hr2 := runD_len (numsS t) []
  rw [numsS_len] at hr2
  obtain ⟨m, hm⟩ : ∃ m, mendF r c l = m := ⟨_, rfl⟩
  obtain ⟨q, hq⟩ : ∃ q, okRunes (numsS t) = q := ⟨_, rfl⟩
  obtain ⟨L, hL⟩ : ∃ L, (runD [] (numsS t)).2 = L := ⟨_, rfl⟩
  obtain ⟨d, hd⟩ : ∃ d, decide (0 ≤ y ∧ y < r ∧ 0 ≤ x ∧ x < c) = d := ⟨_, rfl⟩
  have hms : mayS r c l y x t = (m && d && (q && decide (L.length ≤ 64) && L.all okSign)) := by rw [mayS, hm, hd, htn, hq, hL]
  obtain ⟨R, hR⟩ : ∃ R, mayS r c l y x t = R := ⟨_, rfl⟩
  rw [hR] at hms ⊢
  rw [hL] at hr2
  have HM := Lib.hid hm
  have HQ := Lib.hid hq
  have HL := Lib.hid hL
  have HD := Lib.hid hd
  have HR := Lib.hid hms
  clear ha hm hd hms hq hL hR htn
  go_enter Tryz.func18, Tryz.ntmps18
  go_wp2_with fail
  go_at_call 45
  refine (rrunes_any _ t hs).mono ?_
  rw [HQ.out, HL.out]
  rintro e w1 ⟨vl, rfl, ho, hc1⟩
  have hb1 := (Blk.new w 24 _).kept hc1 id
  have H1 : Hid (Chg w w1 nob) := Lib.hid (((Chg.refl w nob).alloc _).trans hc1 (fun _ _ h => h))
  have HO := Lib.hid ho
  clear hc1 ho
  obtain ⟨al, cl, rfl, _⟩ := HO.out.form
  have u0 := hb1.cell 0
  have u1 := hb1.cell 1
  have u2 := hb1.cell 2
  have u3 := hb1.cell 3
  have u4 := hb1.cell 4
  have u5 := hb1.cell 5
  have u6 := hb1.cell 6
  simp only [List.getElem?_toArray, List.getElem?_cons_zero, List.getElem?_cons_succ] at u0 u1 u2 u3 u4 u5 u6
  have HB1 := Lib.hid hb1
  clear hb1
  go_wp2_with fail
  go_at_call 46
  refine (rmended_any _ r c _ l (HC.out.kept H1.out (fun _ _ => id)) hl).mono ?_
  rw [HM.out]
  rintro e w2 ⟨rfl, hc2⟩
  clear u0 u1 u2 u3 u4 u5 u6
  have hb2 := HB1.out.kept hc2 id
  have u0 := hb2.cell 0
  have u1 := hb2.cell 1
  have u2 := hb2.cell 2
  have u3 := hb2.cell 3
  have u4 := hb2.cell 4
  have u5 := hb2.cell 5
  have u6 := hb2.cell 6
  simp only [List.getElem?_toArray, List.getElem?_cons_zero, List.getElem?_cons_succ] at u0 u1 u2 u3 u4 u5 u6
  have H2 : Hid (Chg w w2 nob) := Lib.hid (H1.out.trans hc2 (fun _ _ h => h))
  have HO2 := Lib.hid (HO.out.kept hc2 (fun _ _ => id))
  clear hc2 hb2 HO
  cases m
  · go_wp2
    go_ret
    exact ⟨by rw [HR.out]; rfl, H2.out⟩
  · rcases (show y < 0 ∨ (0 ≤ y ∧ r ≤ y) ∨ (0 ≤ y ∧ y < r ∧ x < 0) ∨ (0 ≤ y ∧ y < r ∧ 0 ≤ x ∧ c ≤ x) ∨ (0 ≤ y ∧ y < r ∧ 0 ≤ x ∧ x < c) by omega) with h1 | ⟨h1, h2⟩ | ⟨h1, h2, h3⟩ | ⟨h1, h2, h3, h4⟩ | ⟨h1, h2, h3, h4⟩
    · obtain rfl : d = false := by rw [← HD.out]; simp; omega
      go_wp2
      go_ret
      exact ⟨by rw [HR.out]; rfl, H2.out⟩
    · obtain rfl : d = false := by rw [← HD.out]; simp; omega
      go_wp2
      go_ret
      exact ⟨by rw [HR.out]; rfl, H2.out⟩
    · obtain rfl : d = false := by rw [← HD.out]; simp; omega
      go_wp2
      go_ret
      exact ⟨by rw [HR.out]; rfl, H2.out⟩
    · obtain rfl : d = false := by rw [← HD.out]; simp; omega
      go_wp2
      go_ret
      exact ⟨by rw [HR.out]; rfl, H2.out⟩
    · obtain rfl : d = true := by rw [← HD.out]; simp; omega
      cases q
      · go_wp2
        go_ret
        exact ⟨by rw [HR.out]; rfl, H2.out⟩
      · by_cases h64 : L.length ≤ 64
        · have h64' : ¬ (64 : Int) < (L.length : Int) := by omega
          have good : Hid ((∀ j, j < L.length → okSign (L.getD j 0) = true) → R = true) := Lib.hid (fun h => by
            rw [HR.out]
            simp only [Bool.true_and, Bool.and_eq_true, decide_eq_true_eq, List.all_eq_true]
            refine ⟨h64, fun z hz => ?_⟩
            obtain ⟨j, hj, rfl⟩ := List.getElem_of_mem hz
            have := h j hj
            simpa [List.getD, hj] using this)
          have bad : Hid (∀ j, j < L.length → okSign (L.getD j 0) = false → R = false) := Lib.hid (fun j hj h => by
            rw [HR.out]
            have : L.all okSign = false := by
              simp only [List.all_eq_false]
              refine ⟨L.getD j 0, ?_, by rw [h]; exact Bool.false_ne_true⟩
              have e : L.getD j 0 = L[j] := by simp [List.getD, hj]
              rw [e]
              exact List.getElem_mem hj
            rw [this, Bool.and_false, Bool.and_false])
          clear HR
          go_wp2
          go_loopw [5] (fun iv wr => ∃ k : Nat, k ≤ L.length ∧ iv = .int .i64 k ∧ wr = w2 ∧ Hid (∀ j, j < k → okSign (L.getD j 0) = true)) (fun iv _ => L.length - (intOf iv).toNat)
          case atStart => exact ⟨0, Nat.zero_le _, rfl, rfl, Lib.hid (fun j hj => by omega)⟩
          case round =>
            obtain ⟨k, hk, rfl, rfl, HK⟩ := hrel
            by_cases hkl : k < L.length
            · have hkn : (k : Int) < (L.length : Int) := by omega
              obtain ⟨g, o, rfl, hc⟩ := HO2.out.rd.cell (j := k) (u := .int .i32 (L.getD k 0)) (by simp [runesV, List.getD, hkl])
              obtain ⟨z, hz⟩ : ∃ z, L.getD k 0 = z := ⟨_, rfl⟩
              obtain ⟨b, hb⟩ : ∃ b, okSign z = b := ⟨_, rfl⟩
              rw [hz] at hc
              have HZ := Lib.hid hz
              have HB := Lib.hid hb
              clear hz hb
              go_wp2_with fail
              go_at_call 47
              refine (rtsign_any _ z).mono ?_
              rw [HB.out]
              rintro e w3 ⟨rfl, rfl⟩
              cases b
              · go_wp2
                go_ret
                exact ⟨by rw [bad.out k hkl (by rw [HZ.out]; exact HB.out)]; rfl, H2.out⟩
              · go_wp2
                go_roundw
                case rel => exact ⟨k + 1, by omega, by go_num, by trivial, Lib.hid (fun j hj => by
                  rcases (show j < k ∨ j = k by omega) with h | rfl
                  · exact HK.out j h
                  · rw [HZ.out]; exact HB.out)⟩
                case measure => simp [intOf]; omega
            · obtain rfl : k = L.length := by omega
              go_wp2
              go_ret
              exact ⟨by rw [good.out HK.out]; rfl, H2.out⟩
        · have h64' : (64 : Int) < (L.length : Int) := by omega
          have hRf : Hid (R = false) := Lib.hid (by rw [HR.out]; simp [h64])
          go_wp2
          go_ret
          exact ⟨by rw [hRf.out]; rfl, H2.out⟩
end Go.Proofs.YtmbdpcamhkdkmaaGreatDoor
