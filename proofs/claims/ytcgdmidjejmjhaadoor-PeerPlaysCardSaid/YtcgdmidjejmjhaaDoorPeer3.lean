
/-
  One end of the line: the document's.
-/
import Derived.Test.YtcgdmidjejmjhaaDoorPeer2
namespace Go.Proofs.YtcgdmidjejmjhaaDoor
open Go.RowKit
set_option linter.unusedVariables false
set_option linter.unusedSimpArgs false

structure RPeerR (w : World) (g : Nat) (u : Value) (s : Pe) : Prop where
  blk : Blk w g 43 #[u, .int .i64 s.dir, .int .i64 s.viewer, .int .u64 s.out, .int .u64 s.inn, .int .i64 s.addr]
  key : Own w 5 1 u s.key.length (bytesV s.key)
theorem RPeerR.kept {w w' : World} {g : Nat} {u : Value} {s : Pe} (h : RPeerR w g u s) (hc : Chg w w' nob) : RPeerR w' g u s := ⟨h.blk.kept hc id, h.key.kept hc (fun _ _ => id)⟩
theorem RPeerR.by {w : World} {g : Nat} {u : Value} {s : Pe} (h : RPeerR w g u s) (hs : s.Ok) : By w u s.key := ⟨h.key.rd, h.key.nilOk, hs.key.1⟩
set_option maxRecDepth 100000 in
set_option maxHeartbeats 1500000 in
theorem rnew_ok (w : World) (K : List Int) (vk : Value) (d v n : Int) (hk : By w vk K) (hkl : K.length ≤ 1000000) (h : newOk d v n) :
    Calls Tryd.prog 7 #[vk, .int .i64 d, .int .i64 v, .int .u64 n] w fun e w' => ∃ g u, e = .returned (.tuple #[ptr g, .int .i64 0]) ∧ RPeerR w' g u ⟨K, d, v, n, 0, -1⟩ ∧ Chg w w' nob ∧ w.heap.size ≤ g ∧ ∀ k, blkOf u k → w.heap.size ≤ k := by
  have HK := Lib.hid hk
  obtain ⟨h1, h2, h3, h4⟩ := h
  have g1 : 1 ≤ d := by omega
  have g2 : d ≤ 2 := by omega
  clear hk h1
  go_enter Tryd.func7, Tryd.ntmps7
  go_wp2_with fail
  go_at_call 19
  refine (copy_by HK.out hkl).mono ?_
  rintro e w2 ⟨u, rfl, hb⟩
  have HU := Lib.hid hb
  clear hb
  obtain ⟨au, cu, rfl, _⟩ := HU.out.1.form
  go_wp2
  go_ret2
  refine ⟨w2.heap.size, _, rfl, ⟨Blk.new w2 _ _, HU.out.1.kept ((Chg.refl w2 nob).alloc _) (fun _ _ => id)⟩, HU.out.2.1.alloc _, HU.out.2.1.size, HU.out.2.2⟩
set_option maxRecDepth 100000 in
set_option maxHeartbeats 1500000 in
theorem rnew_no (w : World) (vk : Value) (d v n : Int) (h : ¬ newOk d v n) :
    Calls Tryd.prog 7 #[vk, .int .i64 d, .int .i64 v, .int .u64 n] w fun e w' => e = .returned (.tuple #[.pointer none, .int .i64 1]) ∧ Chg w w' nob := by
  have HN : Hid (¬ newOk d v n) := Lib.hid h
  clear h
  go_enter Tryd.func7, Tryd.ntmps7
  go_wp2_with fail
  all_goals first
    | (exfalso; exact HN.out ⟨by omega, by omega, by omega, by omega⟩)
    | (go_wp2
       go_ret2
       exact ⟨rfl, Chg.refl _ _⟩)
set_option maxRecDepth 100000 in
set_option maxHeartbeats 1500000 in
theorem rsend_any (w : World) (g : Nat) (u vb : Value) (s : Pe) (b : List Int) (h : RPeerR w g u s) (hs : s.Ok) (hb : By w vb b) (hnb : b ≠ [] → ∀ k, blkOf vb k → k ≠ g) :
    Calls Tryd.prog 9 #[ptr g, vb] w fun e w' => ∃ x, e = .returned (.tuple #[x, .int .i64 (sendE s b)]) ∧ Fr w w' x (sendL s b) ∧ RPeerR w' g u (sendS s b) ∧ Chg w w' (fun k => k = g) := by
  obtain ⟨ab, cb, rfl, hcb⟩ := hb.form
  obtain ⟨au, cu, rfl, _⟩ := h.key.form
  have HP := Lib.hid h
  have HB := Lib.hid hb
  have HNB := Lib.hid hnb
  have HS := Lib.hid hs
  have h0 : (0 : Int) ≤ (b.length : Int) := by omega
  clear h hb hs hnb
  obtain ⟨key, dir, viewer, out, inn, addr⟩ := s
  have q0 := HP.out.blk.cell 0
  have q1 := HP.out.blk.cell 1
  have q2 := HP.out.blk.cell 2
  have q3 := HP.out.blk.cell 3
  have q4 := HP.out.blk.cell 4
  have q5 := HP.out.blk.cell 5
  simp only [List.getElem?_toArray, List.getElem?_cons_zero, List.getElem?_cons_succ] at q0 q1 q2 q3 q4 q5
  try simp only at q0 q1 q2 q3 q4 q5
  by_cases h1 : 4611686018427387904 ≤ out
  · have HE : Hid (sendE ⟨key, dir, viewer, out, inn, addr⟩ b = 17) := Lib.hid (if_pos h1)
    have HL : Hid (sendL ⟨key, dir, viewer, out, inn, addr⟩ b = [] ∧ sendS ⟨key, dir, viewer, out, inn, addr⟩ b = ⟨key, dir, viewer, out, inn, addr⟩) := Lib.hid ⟨by unfold sendL; rw [HE.out]; rfl, by unfold sendS; rw [HE.out]; rfl⟩
    rw [HE.out, HL.out.1, HL.out.2]
    go_enter Tryd.func9, Tryd.ntmps9
    go_wp2
    go_ret2
    exact ⟨_, rfl, Fr.nil _ _, HP.out, Chg.refl _ _⟩
  · by_cases h2 : 1200 < b.length
    · have HE : Hid (sendE ⟨key, dir, viewer, out, inn, addr⟩ b = 4) := Lib.hid (by unfold sendE; rw [if_neg h1, if_pos h2])
      have HL : Hid (sendL ⟨key, dir, viewer, out, inn, addr⟩ b = [] ∧ sendS ⟨key, dir, viewer, out, inn, addr⟩ b = ⟨key, dir, viewer, out, inn, addr⟩) := Lib.hid ⟨by unfold sendL; rw [HE.out]; rfl, by unfold sendS; rw [HE.out]; rfl⟩
      rw [HE.out, HL.out.1, HL.out.2]
      have h1' : out < 4611686018427387904 := by omega
      have h2' : (1200 : Int) < (b.length : Int) := by omega
      go_enter Tryd.func9, Tryd.ntmps9
      go_wp2
      go_ret2
      exact ⟨_, rfl, Fr.nil _ _, HP.out, Chg.refl _ _⟩
    · have HE : Hid (sendE ⟨key, dir, viewer, out, inn, addr⟩ b = 0) := Lib.hid (by unfold sendE; rw [if_neg h1, if_neg h2])
      have HL : Hid (sendL ⟨key, dir, viewer, out, inn, addr⟩ b = sealL key ⟨dir, viewer, out + 1, b⟩ ∧ sendS ⟨key, dir, viewer, out, inn, addr⟩ b = ⟨key, dir, viewer, out + 1, inn, addr⟩) := Lib.hid ⟨by unfold sendL; rw [HE.out]; rfl, by unfold sendS; rw [HE.out]; rfl⟩
      rw [HE.out, HL.out.1, HL.out.2]
      have h1' : out < 4611686018427387904 := by omega
      have h2' : (b.length : Int) ≤ 1200 := by omega
      obtain ⟨o1, o2⟩ := HS.out.out
      simp only at o1 o2
      have hw1 : IntKind.u64.wrap (out + 1) = out + 1 := wrp_u64v _ (by omega) (by omega)
      have hmy : Pk.May ⟨dir, viewer, out + 1, b⟩ := ⟨HS.out.dir, HS.out.viewer.1, HS.out.viewer.2, by (show 1 ≤ out + 1); omega, by (show out + 1 ≤ _); omega, by (show b.length ≤ 1200); omega⟩
      have HMY := Lib.hid hmy
      have HOK : Hid (Pk.Ok ⟨dir, viewer, out + 1, b⟩) := Lib.hid ⟨by have := HS.out.dir; simp only at this ⊢; omega, by have := HS.out.viewer; simp only at this ⊢; omega, by (show 0 ≤ out + 1 ∧ out + 1 ≤ _); omega⟩
      clear hmy
      have f3 := HP.out.blk.free 3
      go_enter Tryd.func9, Tryd.ntmps9
      go_wp2_with fail
      obtain ⟨w1, hw1⟩ : ∃ W, World.setCell w ⟨g, 3, none⟩ (.int .u64 (out + 1)) = W := ⟨_, rfl⟩
      have HP1 : Hid (RPeerR w1 g (.slice au key.length cu) ⟨key, dir, viewer, out + 1, inn, addr⟩) := Lib.hid (by rw [← hw1]; exact ⟨HP.out.blk.set 3 _, HP.out.key.setOther (p := ⟨g, 3, none⟩) (HP.out.key.ne HP.out.blk (by decide)) _⟩)
      have HC1 : Hid (Chg w w1 (fun k => k = g)) := Lib.hid (by rw [← hw1]; exact (Chg.refl w (fun k => k = g)).setCell (.inl rfl) _)
      have HB1 : Hid (By w1 (.slice ab b.length cb) b) := Lib.hid (HB.out.keptN HC1.out HNB.out)
      rw [hw1]
      clear hw1 q0 q1 q2 q3 q4 q5 f3
      refine wp_one [3, 7, 11, 15] [18] [] [0, 1, 2, 3, 4, 5, 6, 7, 8, 9, 10, 11, 12, 13, 14, 15, 16, 17, 18, 19, 20, 21, 22] rfl (by kernel_rfl) (fun _ _ _ _ _ h => h) ?_; simp only [List.map_cons, List.map_nil, List.getElem?_toArray, List.getElem?_cons_zero, List.getElem?_cons_succ]
      obtain ⟨wd, hwd⟩ : ∃ W, World.drew w1 = W := ⟨_, rfl⟩
      have hcd : Chg w1 wd nob := by rw [← hwd]; exact (Chg.refl w1 nob).drew
      rw [hwd]
      have HPd := Lib.hid (HP1.out.kept hcd)
      have HBd := Lib.hid (HB1.out.kept hcd)
      have HCd : Hid (Chg w wd (fun k => k = g)) := Lib.hid (HC1.out.trans hcd (fun _ _ h => h.elim))
      clear hwd hcd HP1 HB1 HC1
      have q0 := HPd.out.blk.cell 0
      have q1 := HPd.out.blk.cell 1
      have q2 := HPd.out.blk.cell 2
      have q3 := HPd.out.blk.cell 3
      have q4 := HPd.out.blk.cell 4
      have q5 := HPd.out.blk.cell 5
      simp only [List.getElem?_toArray, List.getElem?_cons_zero, List.getElem?_cons_succ] at q0 q1 q2 q3 q4 q5
      try simp only at q0 q1 q2 q3 q4 q5
      have HS2 : Hid (Pe.Ok ⟨key, dir, viewer, out + 1, inn, addr⟩) := Lib.hid ⟨HS.out.key, HS.out.dir, HS.out.viewer, by (show 0 ≤ out + 1 ∧ out + 1 ≤ _); omega⟩
      (repeat (first | (apply can0; (· rfl); (· rfl); (· (intro w'; first | (go_simp; with_reducible rfl) | (go_simp; done))); simp only [Act.put, List.setIfInBounds_toArray, List.set_cons_zero, List.set_cons_succ]) | (apply can1; (· rfl); (· rfl); (· (first | (go_simp; with_reducible rfl) | (go_simp; done))); simp only [Act.put, List.setIfInBounds_toArray, List.set_cons_zero, List.set_cons_succ]) | (apply canN; (· rfl); (· rfl); simp only [Act.put, List.setIfInBounds_toArray, List.set_cons_zero, List.set_cons_succ]) | (apply canN1; (· rfl); (· rfl); simp only [Act.put, List.setIfInBounds_toArray, List.set_cons_zero, List.set_cons_succ]) | (apply can0; (· rfl); (· (go_simp; done)); (· (intro w'; first | (go_simp; with_reducible rfl) | (go_simp; done))); simp only [Act.put, List.setIfInBounds_toArray, List.set_cons_zero, List.set_cons_succ]) | (apply can1; (· rfl); (· (go_simp; done)); (· (first | (go_simp; with_reducible rfl) | (go_simp; done))); simp only [Act.put, List.setIfInBounds_toArray, List.set_cons_zero, List.set_cons_succ]) | (apply canN; (· rfl); (· (go_simp; done)); simp only [Act.put, List.setIfInBounds_toArray, List.set_cons_zero, List.set_cons_succ]) | (apply canN1; (· rfl); (· (go_simp; done)); simp only [Act.put, List.setIfInBounds_toArray, List.set_cons_zero, List.set_cons_succ])))
      refine canW rfl [] rfl (fun K hK => ?_)
      go_simp
      go_at_call 21
      have hsl := rseal_any wd ⟨dir, viewer, out + 1, b⟩ key (.slice au key.length cu) (.slice ab b.length cb) (HPd.out.by HS2.out) HBd.out HOK.out HS.out.key.2 (by (show b.length ≤ 100000); omega)
      rw [show sealR key ⟨dir, viewer, out + 1, b⟩ = sealL key ⟨dir, viewer, out + 1, b⟩ from if_pos HMY.out, show sealE ⟨dir, viewer, out + 1, b⟩ = 0 from if_pos HMY.out] at hsl
      refine hsl.mono ?_
      clear hsl
      rintro e w2 ⟨x, rfl, hbx⟩
      have HX := Lib.hid hbx
      have HP2 := Lib.hid (HPd.out.kept hbx.2.1)
      obtain ⟨ax, cx, rfl, _⟩ := hbx.1.form
      clear hbx q0 q1 q2 q3 q4 q5
      (refine hK _ _ (fun u hu => by cases hu) ?_; clear hK K; try simp only [Act.put, List.setIfInBounds_toArray, List.set_cons_zero, List.set_cons_succ])
      (repeat (first | (apply can0; (· rfl); (· rfl); (· (intro w'; first | (go_simp; with_reducible rfl) | (go_simp; done))); simp only [Act.put, List.setIfInBounds_toArray, List.set_cons_zero, List.set_cons_succ]) | (apply can1; (· rfl); (· rfl); (· (first | (go_simp; with_reducible rfl) | (go_simp; done))); simp only [Act.put, List.setIfInBounds_toArray, List.set_cons_zero, List.set_cons_succ]) | (apply canN; (· rfl); (· rfl); simp only [Act.put, List.setIfInBounds_toArray, List.set_cons_zero, List.set_cons_succ]) | (apply canN1; (· rfl); (· rfl); simp only [Act.put, List.setIfInBounds_toArray, List.set_cons_zero, List.set_cons_succ]) | (apply can0; (· rfl); (· (go_simp; done)); (· (intro w'; first | (go_simp; with_reducible rfl) | (go_simp; done))); simp only [Act.put, List.setIfInBounds_toArray, List.set_cons_zero, List.set_cons_succ]) | (apply can1; (· rfl); (· (go_simp; done)); (· (first | (go_simp; with_reducible rfl) | (go_simp; done))); simp only [Act.put, List.setIfInBounds_toArray, List.set_cons_zero, List.set_cons_succ]) | (apply canN; (· rfl); (· (go_simp; done)); simp only [Act.put, List.setIfInBounds_toArray, List.set_cons_zero, List.set_cons_succ]) | (apply canN1; (· rfl); (· (go_simp; done)); simp only [Act.put, List.setIfInBounds_toArray, List.set_cons_zero, List.set_cons_succ])))
      refine canE ?_
      go_wp2
      go_ret2
      exact ⟨_, rfl, ⟨HX.out.1, fun k hk => Nat.le_trans HCd.out.size (HX.out.2.2 k hk)⟩, HP2.out, HCd.out.trans HX.out.2.1 (fun _ _ h => h.elim)⟩
theorem openL_dir {k b : List Int} {p : Pk} (h : openL k b = (p, 0)) : p.d = 1 ∨ p.d = 2 := by
  unfold openL at h
  split at h
  · cases h
  · split at h
    · split at h
      · rename_i hm
        cases h
        exact hm.1
      · cases h
    · cases h
set_option maxRecDepth 100000 in
set_option maxHeartbeats 1500000 in
theorem rtake_any (w : World) (g : Nat) (u vb : Value) (s : Pe) (fr : Int) (b : List Int) (h : RPeerR w g u s) (hs : s.Ok) (hb : By w vb b) (hbl : b.length ≤ 100000) :
    Calls Tryd.prog 11 #[ptr g, .int .i64 fr, vb] w fun e w' => ∃ x, e = .returned (.tuple #[x, .int .i64 (takeX s fr b).2.2]) ∧ Fr w w' x (takeX s fr b).2.1 ∧ RPeerR w' g u (takeX s fr b).1 ∧ Chg w w' (fun k => k = g) := by
  obtain ⟨ab, cb, rfl, hcb⟩ := hb.form
  obtain ⟨au, cu, rfl, _⟩ := h.key.form
  have HP := Lib.hid h
  have HB := Lib.hid hb
  have HS := Lib.hid hs
  clear h hb hs
  have HTX : Hid (takeX s fr b = if (openL s.key b).2 ≠ 0 then (s, [], (openL s.key b).2)
    else if (openL s.key b).1.d = s.dir ∨ (openL s.key b).1.v ≠ s.viewer then (s, [], 2)
    else if s.inn < (openL s.key b).1.n then ({ s with inn := (openL s.key b).1.n, addr := if 0 ≤ fr then fr else s.addr }, (openL s.key b).1.b, 0)
    else (s, [], 14)) := Lib.hid rfl
  obtain ⟨Z, hZ⟩ : ∃ Z, takeX s fr b = Z := ⟨_, rfl⟩
  rw [hZ] at HTX ⊢
  obtain ⟨key, dir, viewer, out, inn, addr⟩ := s
  have q0 := HP.out.blk.cell 0
  have q1 := HP.out.blk.cell 1
  have q2 := HP.out.blk.cell 2
  have q3 := HP.out.blk.cell 3
  have q4 := HP.out.blk.cell 4
  have q5 := HP.out.blk.cell 5
  simp only [List.getElem?_toArray, List.getElem?_cons_zero, List.getElem?_cons_succ] at q0 q1 q2 q3 q4 q5
  (try simp only at q0 q1 q2 q3 q4 q5); (try simp only at HTX)
  have ho := ropen_any w key b (.slice au key.length cu) _ (HP.out.by HS.out) HB.out HS.out.key.2 hbl
  obtain ⟨R, hR⟩ : ∃ R, openL key b = R := ⟨_, rfl⟩
  rw [hR] at ho HTX
  obtain ⟨⟨pd, pv, pn, pb⟩, pe⟩ := R
  simp only at ho HTX
  have HO := Lib.hid ho
  have HR := Lib.hid hR
  clear ho hR hZ
  by_cases hpe : pe = 0
  · subst hpe
    have HMZ : Hid (pd = 1 ∨ pd = 2) := Lib.hid (openL_dir HR.out)
    have HZ0 : Hid (Z = if pd = dir ∨ pv ≠ viewer then (⟨key, dir, viewer, out, inn, addr⟩, [], 2) else if inn < pn then (⟨key, dir, viewer, out, pn, if 0 ≤ fr then fr else addr⟩, pb, 0) else (⟨key, dir, viewer, out, inn, addr⟩, [], 14)) := Lib.hid (by rw [HTX.out, if_neg (by simp)])
    clear HTX
    go_enter Tryd.func11, Tryd.ntmps11
    go_wp2_with fail
    go_at_call 24
    refine HO.out.mono ?_
    rintro e w1 ⟨x, rfl, hbx⟩
    have HX := Lib.hid hbx
    have HP1 := Lib.hid (HP.out.kept hbx.2.1)
    obtain ⟨ax, cx, rfl, _⟩ := hbx.1.form
    clear hbx HO HP
    clear q0 q1 q2 q3 q4 q5
    simp only [pkV]
    go_wp2_with fail
    obtain ⟨w2, hw2⟩ : ∃ W, w1.alloc (.cells #[.int .i64 pd, .int .i64 pv, .int .u64 pn, .slice ax pb.length cx] 56) = W := ⟨_, rfl⟩
    have hc2 : Chg w1 w2 nob := by rw [← hw2]; exact (Chg.refl w1 nob).alloc _
    have HQ2 : Hid (Blk w2 w1.heap.size 56 #[.int .i64 pd, .int .i64 pv, .int .u64 pn, .slice ax pb.length cx]) := Lib.hid (by rw [← hw2]; exact Blk.new w1 _ _)
    rw [hw2]
    clear hw2
    have HP2 := Lib.hid (HP1.out.kept hc2)
    have HX2 := Lib.hid (HX.out.keptC hc2)
    clear hc2 HP1 HX
    refine wp_one [1, 5, 10, 14] [] [] [0, 1, 2, 3, 4, 5, 6, 7, 8, 9, 10, 11, 12, 13, 14, 15, 16, 17] rfl (by kernel_rfl) (fun _ _ _ _ _ h => h) ?_; simp only [List.map_cons, List.map_nil, List.getElem?_toArray, List.getElem?_cons_zero, List.getElem?_cons_succ]
    obtain ⟨wd, hwd⟩ : ∃ W, World.drew w2 = W := ⟨_, rfl⟩
    have hcd : Chg w2 wd nob := by rw [← hwd]; exact (Chg.refl w2 nob).drew
    rw [hwd]
    have HPd := Lib.hid (HP2.out.kept hcd)
    have HXd := Lib.hid (HX2.out.keptC hcd)
    have HQd := Lib.hid (HQ2.out.kept hcd id)
    have HCd : Hid (Chg w wd nob) := Lib.hid HXd.out.2.1
    clear hcd hwd HP2 HX2 HQ2
    have q0 := HPd.out.blk.cell 0
    have q1 := HPd.out.blk.cell 1
    have q2 := HPd.out.blk.cell 2
    have q3 := HPd.out.blk.cell 3
    have q4 := HPd.out.blk.cell 4
    have q5 := HPd.out.blk.cell 5
    simp only [List.getElem?_toArray, List.getElem?_cons_zero, List.getElem?_cons_succ] at q0 q1 q2 q3 q4 q5
    have x0 := HQd.out.cell 0
    have x1 := HQd.out.cell 1
    have x2 := HQd.out.cell 2
    have x3 := HQd.out.cell 3
    simp only [List.getElem?_toArray, List.getElem?_cons_zero, List.getElem?_cons_succ] at x0 x1 x2 x3
    try simp only at q0 q1 q2 q3 q4 q5
    by_cases hdir : pd = dir
    · have HZ1 : Hid (Z = (⟨key, dir, viewer, out, inn, addr⟩, [], 2)) := Lib.hid (by rw [HZ0.out, if_pos (.inl hdir)])
      have hd1 : (pd != 3 - dir) = true := by have h1 := HS.out.dir; simp only at h1; simp; omega
      clear hdir
      have hw3 : IntKind.i64.wrap (3 - dir) = 3 - dir := by have h1 := HS.out.dir; simp only at h1; rcases h1 with rfl | rfl <;> rfl
      (repeat (first | (apply can0; (· rfl); (· rfl); (· (intro w'; first | (go_simp; with_reducible rfl) | (go_simp; done))); simp only [Act.put, List.setIfInBounds_toArray, List.set_cons_zero, List.set_cons_succ]) | (apply can1; (· rfl); (· rfl); (· (first | (go_simp; with_reducible rfl) | (go_simp; done))); simp only [Act.put, List.setIfInBounds_toArray, List.set_cons_zero, List.set_cons_succ]) | (apply canN; (· rfl); (· rfl); simp only [Act.put, List.setIfInBounds_toArray, List.set_cons_zero, List.set_cons_succ]) | (apply canN1; (· rfl); (· rfl); simp only [Act.put, List.setIfInBounds_toArray, List.set_cons_zero, List.set_cons_succ]) | (apply can0; (· rfl); (· (go_simp; done)); (· (intro w'; first | (go_simp; with_reducible rfl) | (go_simp; done))); simp only [Act.put, List.setIfInBounds_toArray, List.set_cons_zero, List.set_cons_succ]) | (apply can1; (· rfl); (· (go_simp; done)); (· (first | (go_simp; with_reducible rfl) | (go_simp; done))); simp only [Act.put, List.setIfInBounds_toArray, List.set_cons_zero, List.set_cons_succ]) | (apply canN; (· rfl); (· (go_simp; done)); simp only [Act.put, List.setIfInBounds_toArray, List.set_cons_zero, List.set_cons_succ]) | (apply canN1; (· rfl); (· (go_simp; done)); simp only [Act.put, List.setIfInBounds_toArray, List.set_cons_zero, List.set_cons_succ])))
      refine canE ?_
      go_wp2
      go_ret2
      rw [HZ1.out]
      exact ⟨_, rfl, Fr.nil _ _, HPd.out, HCd.out.mono (fun _ _ h => h.elim)⟩
    · have hd1 : (pd != 3 - dir) = false := by have h1 := HS.out.dir; have h2 := HMZ.out; simp only at h1 h2; simp; omega
      have hw3 : IntKind.i64.wrap (3 - dir) = 3 - dir := by have h1 := HS.out.dir; simp only at h1; rcases h1 with rfl | rfl <;> rfl
      by_cases hvi : pv = viewer
      · have hv1 : (pv != viewer) = false := by simpa using hvi
        have HZ1 : Hid (Z = if inn < pn then (⟨key, dir, viewer, out, pn, if 0 ≤ fr then fr else addr⟩, pb, 0) else (⟨key, dir, viewer, out, inn, addr⟩, [], 14)) := Lib.hid (by rw [HZ0.out, if_neg (by simp [hdir, hvi])])
        clear HZ0
        have HDI := Lib.hid hdir
        have HVI := Lib.hid hvi
        clear hdir hvi
        (repeat (first | (apply can0; (· rfl); (· rfl); (· (intro w'; first | (go_simp; with_reducible rfl) | (go_simp; done))); simp only [Act.put, List.setIfInBounds_toArray, List.set_cons_zero, List.set_cons_succ]) | (apply can1; (· rfl); (· rfl); (· (first | (go_simp; with_reducible rfl) | (go_simp; done))); simp only [Act.put, List.setIfInBounds_toArray, List.set_cons_zero, List.set_cons_succ]) | (apply canN; (· rfl); (· rfl); simp only [Act.put, List.setIfInBounds_toArray, List.set_cons_zero, List.set_cons_succ]) | (apply canN1; (· rfl); (· rfl); simp only [Act.put, List.setIfInBounds_toArray, List.set_cons_zero, List.set_cons_succ]) | (apply can0; (· rfl); (· (go_simp; done)); (· (intro w'; first | (go_simp; with_reducible rfl) | (go_simp; done))); simp only [Act.put, List.setIfInBounds_toArray, List.set_cons_zero, List.set_cons_succ]) | (apply can1; (· rfl); (· (go_simp; done)); (· (first | (go_simp; with_reducible rfl) | (go_simp; done))); simp only [Act.put, List.setIfInBounds_toArray, List.set_cons_zero, List.set_cons_succ]) | (apply canN; (· rfl); (· (go_simp; done)); simp only [Act.put, List.setIfInBounds_toArray, List.set_cons_zero, List.set_cons_succ]) | (apply canN1; (· rfl); (· (go_simp; done)); simp only [Act.put, List.setIfInBounds_toArray, List.set_cons_zero, List.set_cons_succ])))
        refine canE ?_
        go_wp2_with fail
        refine wp_one [1, 5] [] [] [0, 1, 2, 3, 4, 5, 6, 7] rfl (by kernel_rfl) (fun _ _ _ _ _ h => h) ?_; simp only [List.map_cons, List.map_nil, List.getElem?_toArray, List.getElem?_cons_zero, List.getElem?_cons_succ]
        obtain ⟨we, hwe⟩ : ∃ W, World.drew wd = W := ⟨_, rfl⟩
        have hce : Chg wd we nob := by rw [← hwe]; exact (Chg.refl wd nob).drew
        rw [hwe]
        have HPe := Lib.hid (HPd.out.kept hce)
        have HXe := Lib.hid (HXd.out.keptC hce)
        have HQe := Lib.hid (HQd.out.kept hce id)
        clear hce hwe HXd HQd HPd
        clear q0 q1 q2 q3 q4 q5
        clear x0 x1 x2 x3
        have q0 := HPe.out.blk.cell 0
        have q1 := HPe.out.blk.cell 1
        have q2 := HPe.out.blk.cell 2
        have q3 := HPe.out.blk.cell 3
        have q4 := HPe.out.blk.cell 4
        have q5 := HPe.out.blk.cell 5
        simp only [List.getElem?_toArray, List.getElem?_cons_zero, List.getElem?_cons_succ] at q0 q1 q2 q3 q4 q5
        have x0 := HQe.out.cell 0
        have x1 := HQe.out.cell 1
        have x2 := HQe.out.cell 2
        have x3 := HQe.out.cell 3
        simp only [List.getElem?_toArray, List.getElem?_cons_zero, List.getElem?_cons_succ] at x0 x1 x2 x3
        try simp only at q0 q1 q2 q3 q4 q5
        have f4 := HPe.out.blk.free 4
        have hgq : g ≠ w1.heap.size := fun e => by
          have h1 := HPe.out.blk
          rw [e] at h1
          have h2 := (h1.inj HQe.out).1
          revert h2
          decide
        by_cases hnn : inn < pn
        · have HZ2 : Hid (Z = (⟨key, dir, viewer, out, pn, if 0 ≤ fr then fr else addr⟩, pb, 0)) := Lib.hid (by rw [HZ1.out, if_pos hnn])
          have h4 := HPe.out.blk.set 4 (.int .u64 pn)
          have k4 := HPe.out.key.setOther (p := ⟨g, 4, none⟩) (HPe.out.key.ne HPe.out.blk (by decide)) (.int .u64 pn)
          have x4 := HXe.out.1.setOther (p := ⟨g, 4, none⟩) (HXe.out.1.ne HPe.out.blk (by decide)) (.int .u64 pn)
          have y4 := HQe.out.other (p := ⟨g, 4, none⟩) (Ne.symm hgq) (.int .u64 pn)
          have H4 := Lib.hid h4
          have K4 := Lib.hid k4
          have X4 := Lib.hid x4
          have q5' := h4.cell 5
          have f5' := h4.free 5
          have x3' := y4.cell 3
          simp only [List.getElem?_toArray, List.getElem?_cons_zero, List.getElem?_cons_succ] at q5' x3'
          have C4 : Hid (Chg w (we.setCell ⟨g, 4, none⟩ (.int .u64 pn)) (fun k => k = g)) := Lib.hid ((HXe.out.2.1.mono (G := fun k => k = g) (fun _ _ h => h.elim)).setCell (p := ⟨g, 4, none⟩) (.inl rfl) _)
          have XN : Hid (∀ k, blkOf (.slice ax pb.length cx) k → w.heap.size ≤ k) := Lib.hid HXe.out.2.2
          by_cases hfr : 0 ≤ fr
          · rw [if_pos hfr] at HZ2
            have x3'' := (y4.other (p := ⟨g, 5, none⟩) (Ne.symm hgq) (.int .i64 fr)).cell 3
            simp only [List.getElem?_toArray, List.getElem?_cons_zero, List.getElem?_cons_succ] at x3''
            clear h4 k4 x4 y4 HXe HQe
            (repeat (first | (apply can0; (· rfl); (· rfl); (· (intro w'; first | (go_simp; with_reducible rfl) | (go_simp; done))); simp only [Act.put, List.setIfInBounds_toArray, List.set_cons_zero, List.set_cons_succ]) | (apply can1; (· rfl); (· rfl); (· (first | (go_simp; with_reducible rfl) | (go_simp; done))); simp only [Act.put, List.setIfInBounds_toArray, List.set_cons_zero, List.set_cons_succ]) | (apply canN; (· rfl); (· rfl); simp only [Act.put, List.setIfInBounds_toArray, List.set_cons_zero, List.set_cons_succ]) | (apply canN1; (· rfl); (· rfl); simp only [Act.put, List.setIfInBounds_toArray, List.set_cons_zero, List.set_cons_succ]) | (apply can0; (· rfl); (· (go_simp; done)); (· (intro w'; first | (go_simp; with_reducible rfl) | (go_simp; done))); simp only [Act.put, List.setIfInBounds_toArray, List.set_cons_zero, List.set_cons_succ]) | (apply can1; (· rfl); (· (go_simp; done)); (· (first | (go_simp; with_reducible rfl) | (go_simp; done))); simp only [Act.put, List.setIfInBounds_toArray, List.set_cons_zero, List.set_cons_succ]) | (apply canN; (· rfl); (· (go_simp; done)); simp only [Act.put, List.setIfInBounds_toArray, List.set_cons_zero, List.set_cons_succ]) | (apply canN1; (· rfl); (· (go_simp; done)); simp only [Act.put, List.setIfInBounds_toArray, List.set_cons_zero, List.set_cons_succ])))
            refine canE ?_
            go_wp2
            go_ret2
            rw [HZ2.out]
            exact ⟨_, rfl, ⟨X4.out.setOther (p := ⟨g, 5, none⟩) (X4.out.ne H4.out (by decide)) _, XN.out⟩, ⟨H4.out.set 5 _, K4.out.setOther (p := ⟨g, 5, none⟩) (K4.out.ne H4.out (by decide)) _⟩, C4.out.setCell (p := ⟨g, 5, none⟩) (.inl rfl) _⟩
          · rw [if_neg hfr] at HZ2
            have hfr' : fr < 0 := by omega
            clear h4 k4 x4 y4 HXe HQe
            (repeat (first | (apply can0; (· rfl); (· rfl); (· (intro w'; first | (go_simp; with_reducible rfl) | (go_simp; done))); simp only [Act.put, List.setIfInBounds_toArray, List.set_cons_zero, List.set_cons_succ]) | (apply can1; (· rfl); (· rfl); (· (first | (go_simp; with_reducible rfl) | (go_simp; done))); simp only [Act.put, List.setIfInBounds_toArray, List.set_cons_zero, List.set_cons_succ]) | (apply canN; (· rfl); (· rfl); simp only [Act.put, List.setIfInBounds_toArray, List.set_cons_zero, List.set_cons_succ]) | (apply canN1; (· rfl); (· rfl); simp only [Act.put, List.setIfInBounds_toArray, List.set_cons_zero, List.set_cons_succ]) | (apply can0; (· rfl); (· (go_simp; done)); (· (intro w'; first | (go_simp; with_reducible rfl) | (go_simp; done))); simp only [Act.put, List.setIfInBounds_toArray, List.set_cons_zero, List.set_cons_succ]) | (apply can1; (· rfl); (· (go_simp; done)); (· (first | (go_simp; with_reducible rfl) | (go_simp; done))); simp only [Act.put, List.setIfInBounds_toArray, List.set_cons_zero, List.set_cons_succ]) | (apply canN; (· rfl); (· (go_simp; done)); simp only [Act.put, List.setIfInBounds_toArray, List.set_cons_zero, List.set_cons_succ]) | (apply canN1; (· rfl); (· (go_simp; done)); simp only [Act.put, List.setIfInBounds_toArray, List.set_cons_zero, List.set_cons_succ])))
            refine canE ?_
            go_wp2
            go_ret2
            rw [HZ2.out]
            exact ⟨_, rfl, ⟨X4.out, XN.out⟩, ⟨H4.out, K4.out⟩, C4.out⟩
        · have HZ2 : Hid (Z = (⟨key, dir, viewer, out, inn, addr⟩, [], 14)) := Lib.hid (by rw [HZ1.out, if_neg hnn])
          have hnn' : pn ≤ inn := by omega
          have HCe : Hid (Chg w we nob) := Lib.hid HXe.out.2.1
          (repeat (first | (apply can0; (· rfl); (· rfl); (· (intro w'; first | (go_simp; with_reducible rfl) | (go_simp; done))); simp only [Act.put, List.setIfInBounds_toArray, List.set_cons_zero, List.set_cons_succ]) | (apply can1; (· rfl); (· rfl); (· (first | (go_simp; with_reducible rfl) | (go_simp; done))); simp only [Act.put, List.setIfInBounds_toArray, List.set_cons_zero, List.set_cons_succ]) | (apply canN; (· rfl); (· rfl); simp only [Act.put, List.setIfInBounds_toArray, List.set_cons_zero, List.set_cons_succ]) | (apply canN1; (· rfl); (· rfl); simp only [Act.put, List.setIfInBounds_toArray, List.set_cons_zero, List.set_cons_succ]) | (apply can0; (· rfl); (· (go_simp; done)); (· (intro w'; first | (go_simp; with_reducible rfl) | (go_simp; done))); simp only [Act.put, List.setIfInBounds_toArray, List.set_cons_zero, List.set_cons_succ]) | (apply can1; (· rfl); (· (go_simp; done)); (· (first | (go_simp; with_reducible rfl) | (go_simp; done))); simp only [Act.put, List.setIfInBounds_toArray, List.set_cons_zero, List.set_cons_succ]) | (apply canN; (· rfl); (· (go_simp; done)); simp only [Act.put, List.setIfInBounds_toArray, List.set_cons_zero, List.set_cons_succ]) | (apply canN1; (· rfl); (· (go_simp; done)); simp only [Act.put, List.setIfInBounds_toArray, List.set_cons_zero, List.set_cons_succ])))
          refine canE ?_
          go_wp2
          go_ret2
          rw [HZ2.out]
          exact ⟨_, rfl, Fr.nil _ _, HPe.out, HCe.out.mono (fun _ _ h => h.elim)⟩
      · have hv1 : (pv != viewer) = true := by simpa using hvi
        have HZ1 : Hid (Z = (⟨key, dir, viewer, out, inn, addr⟩, [], 2)) := Lib.hid (by rw [HZ0.out, if_pos (.inr hvi)])
        (repeat (first | (apply can0; (· rfl); (· rfl); (· (intro w'; first | (go_simp; with_reducible rfl) | (go_simp; done))); simp only [Act.put, List.setIfInBounds_toArray, List.set_cons_zero, List.set_cons_succ]) | (apply can1; (· rfl); (· rfl); (· (first | (go_simp; with_reducible rfl) | (go_simp; done))); simp only [Act.put, List.setIfInBounds_toArray, List.set_cons_zero, List.set_cons_succ]) | (apply canN; (· rfl); (· rfl); simp only [Act.put, List.setIfInBounds_toArray, List.set_cons_zero, List.set_cons_succ]) | (apply canN1; (· rfl); (· rfl); simp only [Act.put, List.setIfInBounds_toArray, List.set_cons_zero, List.set_cons_succ]) | (apply can0; (· rfl); (· (go_simp; done)); (· (intro w'; first | (go_simp; with_reducible rfl) | (go_simp; done))); simp only [Act.put, List.setIfInBounds_toArray, List.set_cons_zero, List.set_cons_succ]) | (apply can1; (· rfl); (· (go_simp; done)); (· (first | (go_simp; with_reducible rfl) | (go_simp; done))); simp only [Act.put, List.setIfInBounds_toArray, List.set_cons_zero, List.set_cons_succ]) | (apply canN; (· rfl); (· (go_simp; done)); simp only [Act.put, List.setIfInBounds_toArray, List.set_cons_zero, List.set_cons_succ]) | (apply canN1; (· rfl); (· (go_simp; done)); simp only [Act.put, List.setIfInBounds_toArray, List.set_cons_zero, List.set_cons_succ])))
        refine canE ?_
        go_wp2
        go_ret2
        rw [HZ1.out]
        exact ⟨_, rfl, Fr.nil _ _, HPd.out, HCd.out.mono (fun _ _ h => h.elim)⟩
  · have HZ0 : Hid (Z = (⟨key, dir, viewer, out, inn, addr⟩, [], pe)) := Lib.hid (by rw [HTX.out, if_pos hpe])
    have hpe' : (pe != 0) = true := by simpa using hpe
    go_enter Tryd.func11, Tryd.ntmps11
    go_wp2_with fail
    go_at_call 24
    refine HO.out.mono ?_
    rintro e w1 ⟨x, rfl, hbx⟩
    have HP1 := Lib.hid (HP.out.kept hbx.2.1)
    have HC1 := Lib.hid hbx.2.1
    obtain ⟨ax, cx, rfl, _⟩ := hbx.1.form
    clear hbx HO HP
    clear q0 q1 q2 q3 q4 q5
    simp only [pkV]
    have HP2 := Lib.hid (HP1.out.kept ((Chg.refl w1 nob).alloc (.cells #[.int .i64 pd, .int .i64 pv, .int .u64 pn, .slice ax pb.length cx] 56)))
    have HC2 := Lib.hid (HC1.out.alloc (.cells #[.int .i64 pd, .int .i64 pv, .int .u64 pn, .slice ax pb.length cx] 56))
    go_wp2
    go_ret2
    rw [HZ0.out]
    exact ⟨_, rfl, Fr.nil _ _, HP2.out, HC2.out.mono (fun _ _ h => h.elim)⟩
end Go.Proofs.YtcgdmidjejmjhaaDoor
