
/-
  One end of the line: Take.
-/
import Derived.Test.YtcgdmidjejmjhaaDoorPeer
namespace Go.Proofs.YtcgdmidjejmjhaaDoor
open Go.RowKit
set_option linter.unusedVariables false
set_option linter.unusedSimpArgs false

def takeX (s : Pe) (fr : Int) (b : List Int) : Pe × List Int × Int :=
  if (openL s.key b).2 ≠ 0 then (s, [], (openL s.key b).2)
  else if (openL s.key b).1.d = s.dir ∨ (openL s.key b).1.v ≠ s.viewer then (s, [], 2)
  else if s.inn < (openL s.key b).1.n then ({ s with inn := (openL s.key b).1.n, addr := if 0 ≤ fr then fr else s.addr }, (openL s.key b).1.b, 0)
  else (s, [], 14)
def pkB (p : Pk) (x : Value) : Array Value := #[.int .i64 p.d, .int .i64 p.v, .int .u64 p.n, x]
set_option maxRecDepth 100000 in
set_option maxHeartbeats 1500000 in
theorem ptake_any (w : World) (g gw : Nat) (u vb : Value) (s : Pe) (fr : Int) (b : List Int) (ht : Tab w) (h : PeerR w g gw u s) (hs : s.Ok) (hb : By w vb b) (hbl : b.length ≤ 100000) :
    Calls Tryd.prog 10 #[ptr g, .int .i64 fr, vb] w fun e w' => ∃ x, e = .returned (.tuple #[x, .int .i64 (takeX s fr b).2.2]) ∧ Fr w w' x (takeX s fr b).2.1 ∧ PeerR w' g gw u (takeX s fr b).1 ∧ Chg w w' (fun k => k = g ∨ k = gw) := by
  obtain ⟨ab, cb, rfl, hcb⟩ := hb.form
  obtain ⟨au, cu, rfl, _⟩ := h.key.form
  have HP := Lib.hid h
  have HB := Lib.hid hb
  have HT := Lib.hid ht
  have HS := Lib.hid hs
  clear h hb ht hs
  have HTX : Hid (takeX s fr b = if (openL s.key b).2 ≠ 0 then (s, [], (openL s.key b).2)
    else if (openL s.key b).1.d = s.dir ∨ (openL s.key b).1.v ≠ s.viewer then (s, [], 2)
    else if s.inn < (openL s.key b).1.n then ({ s with inn := (openL s.key b).1.n, addr := if 0 ≤ fr then fr else s.addr }, (openL s.key b).1.b, 0)
    else (s, [], 14)) := Lib.hid rfl
  obtain ⟨Z, hZ⟩ : ∃ Z, takeX s fr b = Z := ⟨_, rfl⟩
  rw [hZ] at HTX ⊢
  obtain ⟨key, dir, viewer, out, inn, addr⟩ := s
  have q0 := HP.out.blk.cell 0
  have q1 := HP.out.blk.cell 1
  have q2 := HP.out.blk.cell 2
  have q3 := HP.out.blk.cell 3
  have q4 := HP.out.blk.cell 4
  have q5 := HP.out.blk.cell 5
  simp only [List.getElem?_toArray, List.getElem?_cons_zero, List.getElem?_cons_succ] at q0 q1 q2 q3 q4 q5
  (try simp only at q0 q1 q2 q3 q4 q5); (try simp only at HTX)
  have ho := open_any w key b (.slice au key.length cu) _ HT.out (HP.out.by HS.out) HB.out HS.out.key.2 hbl
  obtain ⟨R, hR⟩ : ∃ R, openL key b = R := ⟨_, rfl⟩
  rw [hR] at ho HTX
  obtain ⟨⟨pd, pv, pn, pb⟩, pe⟩ := R
  simp only at ho HTX
  have HO := Lib.hid ho
  clear ho hR hZ
  by_cases hpe : pe = 0
  · subst hpe
    have HZ0 : Hid (Z = if pd = dir ∨ pv ≠ viewer then (⟨key, dir, viewer, out, inn, addr⟩, [], 2) else if inn < pn then (⟨key, dir, viewer, out, pn, if 0 ≤ fr then fr else addr⟩, pb, 0) else (⟨key, dir, viewer, out, inn, addr⟩, [], 14)) := Lib.hid (by rw [HTX.out, if_neg (by simp)])
    clear HTX
    go_enter Tryd.func10, Tryd.ntmps10
    go_wp2_with fail
    go_at_call 22
    refine HO.out.mono ?_
    rintro e w1 ⟨x, rfl, hbx⟩
    have HX := Lib.hid hbx
    have HP1 := Lib.hid (HP.out.kept hbx.2.1)
    obtain ⟨ax, cx, rfl, _⟩ := hbx.1.form
    clear hbx HO HP
    clear q0 q1 q2 q3 q4 q5
    simp only [pkV]
    go_wp2_with fail
    obtain ⟨w2, hw2⟩ : ∃ W, w1.alloc (.cells #[.int .i64 pd, .int .i64 pv, .int .u64 pn, .slice ax pb.length cx] 48) = W := ⟨_, rfl⟩
    have hc2 : Chg w1 w2 nob := by rw [← hw2]; exact (Chg.refl w1 nob).alloc _
    have HQ2 : Hid (Blk w2 w1.heap.size 48 #[.int .i64 pd, .int .i64 pv, .int .u64 pn, .slice ax pb.length cx]) := Lib.hid (by rw [← hw2]; exact Blk.new w1 _ _)
    rw [hw2]
    clear hw2
    have HP2 := Lib.hid (HP1.out.kept hc2)
    have HX2 := Lib.hid (HX.out.keptC hc2)
    clear hc2 HP1 HX
    refine wp_one [1, 5, 9, 13] [] [] [0, 1, 2, 3, 4, 5, 6, 7, 8, 9, 10, 11, 12, 13, 14, 15, 16] rfl (by kernel_rfl) (fun _ _ _ _ _ h => h) ?_; simp only [List.map_cons, List.map_nil, List.getElem?_toArray, List.getElem?_cons_zero, List.getElem?_cons_succ]
    obtain ⟨wd, hwd⟩ : ∃ W, World.drew w2 = W := ⟨_, rfl⟩
    have hcd : Chg w2 wd nob := by rw [← hwd]; exact (Chg.refl w2 nob).drew
    rw [hwd]
    have HPd := Lib.hid (HP2.out.kept hcd)
    have HXd := Lib.hid (HX2.out.keptC hcd)
    have HQd := Lib.hid (HQ2.out.kept hcd id)
    have HCd : Hid (Chg w wd nob) := Lib.hid HXd.out.2.1
    clear hcd hwd HP2 HX2 HQ2
    have q0 := HPd.out.blk.cell 0
    have q1 := HPd.out.blk.cell 1
    have q2 := HPd.out.blk.cell 2
    have q3 := HPd.out.blk.cell 3
    have q4 := HPd.out.blk.cell 4
    have q5 := HPd.out.blk.cell 5
    simp only [List.getElem?_toArray, List.getElem?_cons_zero, List.getElem?_cons_succ] at q0 q1 q2 q3 q4 q5
    have x0 := HQd.out.cell 0
    have x1 := HQd.out.cell 1
    have x2 := HQd.out.cell 2
    have x3 := HQd.out.cell 3
    simp only [List.getElem?_toArray, List.getElem?_cons_zero, List.getElem?_cons_succ] at x0 x1 x2 x3
    try simp only at q0 q1 q2 q3 q4 q5
    by_cases hdir : pd = dir
    · have HZ1 : Hid (Z = (⟨key, dir, viewer, out, inn, addr⟩, [], 2)) := Lib.hid (by rw [HZ0.out, if_pos (.inl hdir)])
      have hd1 : (pd == dir) = true := by simpa using hdir
      (repeat (first | (apply can0; (· rfl); (· rfl); (· (intro w'; first | (go_simp; with_reducible rfl) | (go_simp; done))); simp only [Act.put, List.setIfInBounds_toArray, List.set_cons_zero, List.set_cons_succ]) | (apply can1; (· rfl); (· rfl); (· (first | (go_simp; with_reducible rfl) | (go_simp; done))); simp only [Act.put, List.setIfInBounds_toArray, List.set_cons_zero, List.set_cons_succ]) | (apply canN; (· rfl); (· rfl); simp only [Act.put, List.setIfInBounds_toArray, List.set_cons_zero, List.set_cons_succ]) | (apply canN1; (· rfl); (· rfl); simp only [Act.put, List.setIfInBounds_toArray, List.set_cons_zero, List.set_cons_succ]) | (apply can0; (· rfl); (· (go_simp; done)); (· (intro w'; first | (go_simp; with_reducible rfl) | (go_simp; done))); simp only [Act.put, List.setIfInBounds_toArray, List.set_cons_zero, List.set_cons_succ]) | (apply can1; (· rfl); (· (go_simp; done)); (· (first | (go_simp; with_reducible rfl) | (go_simp; done))); simp only [Act.put, List.setIfInBounds_toArray, List.set_cons_zero, List.set_cons_succ]) | (apply canN; (· rfl); (· (go_simp; done)); simp only [Act.put, List.setIfInBounds_toArray, List.set_cons_zero, List.set_cons_succ]) | (apply canN1; (· rfl); (· (go_simp; done)); simp only [Act.put, List.setIfInBounds_toArray, List.set_cons_zero, List.set_cons_succ])))
      refine canE ?_
      go_wp2
      go_ret2
      rw [HZ1.out]
      exact ⟨_, rfl, Fr.nil _ _, HPd.out, HCd.out.mono (fun _ _ h => h.elim)⟩
    · have hd1 : (pd == dir) = false := by simpa using hdir
      by_cases hvi : pv = viewer
      · have hv1 : (pv != viewer) = false := by simpa using hvi
        have HZ1 : Hid (Z = if inn < pn then (⟨key, dir, viewer, out, pn, if 0 ≤ fr then fr else addr⟩, pb, 0) else (⟨key, dir, viewer, out, inn, addr⟩, [], 14)) := Lib.hid (by rw [HZ0.out, if_neg (by simp [hdir, hvi])])
        clear HZ0
        have HDI := Lib.hid hdir
        have HVI := Lib.hid hvi
        clear hdir hvi
        (repeat (first | (apply can0; (· rfl); (· rfl); (· (intro w'; first | (go_simp; with_reducible rfl) | (go_simp; done))); simp only [Act.put, List.setIfInBounds_toArray, List.set_cons_zero, List.set_cons_succ]) | (apply can1; (· rfl); (· rfl); (· (first | (go_simp; with_reducible rfl) | (go_simp; done))); simp only [Act.put, List.setIfInBounds_toArray, List.set_cons_zero, List.set_cons_succ]) | (apply canN; (· rfl); (· rfl); simp only [Act.put, List.setIfInBounds_toArray, List.set_cons_zero, List.set_cons_succ]) | (apply canN1; (· rfl); (· rfl); simp only [Act.put, List.setIfInBounds_toArray, List.set_cons_zero, List.set_cons_succ]) | (apply can0; (· rfl); (· (go_simp; done)); (· (intro w'; first | (go_simp; with_reducible rfl) | (go_simp; done))); simp only [Act.put, List.setIfInBounds_toArray, List.set_cons_zero, List.set_cons_succ]) | (apply can1; (· rfl); (· (go_simp; done)); (· (first | (go_simp; with_reducible rfl) | (go_simp; done))); simp only [Act.put, List.setIfInBounds_toArray, List.set_cons_zero, List.set_cons_succ]) | (apply canN; (· rfl); (· (go_simp; done)); simp only [Act.put, List.setIfInBounds_toArray, List.set_cons_zero, List.set_cons_succ]) | (apply canN1; (· rfl); (· (go_simp; done)); simp only [Act.put, List.setIfInBounds_toArray, List.set_cons_zero, List.set_cons_succ])))
        refine canE ?_
        go_wp2_with fail
        refine wp_one [3, 5] [6] [] [0, 1, 2, 3, 4, 5, 6, 7] rfl (by kernel_rfl) (fun _ _ _ _ _ h => h) ?_; simp only [List.map_cons, List.map_nil, List.getElem?_toArray, List.getElem?_cons_zero, List.getElem?_cons_succ]
        obtain ⟨we, hwe⟩ : ∃ W, World.drew wd = W := ⟨_, rfl⟩
        have hce : Chg wd we nob := by rw [← hwe]; exact (Chg.refl wd nob).drew
        rw [hwe]
        have HPe := Lib.hid (HPd.out.kept hce)
        have HXe := Lib.hid (HXd.out.keptC hce)
        have HQe := Lib.hid (HQd.out.kept hce id)
        clear hce hwe HXd HQd HPd
        clear q0 q1 q2 q3 q4 q5
        clear x0 x1 x2 x3
        have q0 := HPe.out.blk.cell 0
        have q1 := HPe.out.blk.cell 1
        have q2 := HPe.out.blk.cell 2
        have q3 := HPe.out.blk.cell 3
        have q4 := HPe.out.blk.cell 4
        have q5 := HPe.out.blk.cell 5
        simp only [List.getElem?_toArray, List.getElem?_cons_zero, List.getElem?_cons_succ] at q0 q1 q2 q3 q4 q5
        have x0 := HQe.out.cell 0
        have x1 := HQe.out.cell 1
        have x2 := HQe.out.cell 2
        have x3 := HQe.out.cell 3
        simp only [List.getElem?_toArray, List.getElem?_cons_zero, List.getElem?_cons_succ] at x0 x1 x2 x3
        try simp only at q0 q1 q2 q3 q4 q5
        (repeat (first | (apply can0; (· rfl); (· rfl); (· (intro w'; first | (go_simp; with_reducible rfl) | (go_simp; done))); simp only [Act.put, List.setIfInBounds_toArray, List.set_cons_zero, List.set_cons_succ]) | (apply can1; (· rfl); (· rfl); (· (first | (go_simp; with_reducible rfl) | (go_simp; done))); simp only [Act.put, List.setIfInBounds_toArray, List.set_cons_zero, List.set_cons_succ]) | (apply canN; (· rfl); (· rfl); simp only [Act.put, List.setIfInBounds_toArray, List.set_cons_zero, List.set_cons_succ]) | (apply canN1; (· rfl); (· rfl); simp only [Act.put, List.setIfInBounds_toArray, List.set_cons_zero, List.set_cons_succ]) | (apply can0; (· rfl); (· (go_simp; done)); (· (intro w'; first | (go_simp; with_reducible rfl) | (go_simp; done))); simp only [Act.put, List.setIfInBounds_toArray, List.set_cons_zero, List.set_cons_succ]) | (apply can1; (· rfl); (· (go_simp; done)); (· (first | (go_simp; with_reducible rfl) | (go_simp; done))); simp only [Act.put, List.setIfInBounds_toArray, List.set_cons_zero, List.set_cons_succ]) | (apply canN; (· rfl); (· (go_simp; done)); simp only [Act.put, List.setIfInBounds_toArray, List.set_cons_zero, List.set_cons_succ]) | (apply canN1; (· rfl); (· (go_simp; done)); simp only [Act.put, List.setIfInBounds_toArray, List.set_cons_zero, List.set_cons_succ])))
        refine canW rfl [] rfl (fun K hK => ?_)
        go_simp
        go_at_call 23
        refine (wtake_any we gw inn pn HPe.out.win).mono ?_
        rintro e w5 ⟨rfl, hw5, hc5⟩
        have hne := HPe.out.ne
        have hqg : w1.heap.size ≠ gw := fun e => by
          have h1 := HQe.out
          rw [e] at h1
          have h2 := (h1.inj HPe.out.win).1
          revert h2
          decide
        have hgq : g ≠ w1.heap.size := fun e => by
          have h1 := HPe.out.blk
          rw [e] at h1
          have h2 := (h1.inj HQe.out).1
          revert h2
          decide
        have hX5 : Own w5 5 1 (.slice ax pb.length cx) pb.length (bytesV pb) := HXe.out.1.apart hc5 (fun k hk => by subst hk; exact ⟨_, _, HPe.out.win, by decide⟩)
        have HX5 := Lib.hid hX5
        have HK5 : Hid (Own w5 5 1 (.slice au key.length cu) key.length (bytesV key)) := Lib.hid (HPe.out.key.apart hc5 (fun k hk => by subst hk; exact ⟨_, _, HPe.out.win, by decide⟩))
        have HG5 : Hid (Blk w5 g 53 #[.slice au key.length cu, .int .i64 dir, .int .i64 viewer, .int .u64 out, ptr gw, .int .i64 addr]) := Lib.hid (HPe.out.blk.kept hc5 hne)
        have HQ5 := Lib.hid (HQe.out.kept hc5 hqg)
        have HW5 := Lib.hid hw5
        have HC5 : Hid (Chg w w5 (fun k => k = g ∨ k = gw)) := Lib.hid ((HXe.out.2.1.mono (fun _ _ h => h.elim)).trans hc5 (fun _ _ h => .inr h))
        have HXN : Hid (∀ k, blkOf (.slice ax pb.length cx) k → w.heap.size ≤ k) := Lib.hid HXe.out.2.2
        clear hX5 hw5 hc5 HPe HXe HQe
        clear q0 q1 q2 q3 q4 q5
        clear x0 x1 x2 x3
        (refine hK _ _ (fun u hu => by cases hu) ?_; clear hK K; try simp only [Act.put, List.setIfInBounds_toArray, List.set_cons_zero, List.set_cons_succ])
        by_cases hnn : inn < pn
        · have HZ2 : Hid (Z = (⟨key, dir, viewer, out, pn, if 0 ≤ fr then fr else addr⟩, pb, 0)) := Lib.hid (by rw [HZ1.out, if_pos hnn])
          have HW6 : Hid (Win w5 gw pn) := Lib.hid (by have h := HW5.out; rw [takeL, if_pos hnn] at h; exact h)
          rw [show takeE inn pn = 0 from if_pos hnn]
          have q5 := HG5.out.cell 5
          have f5 := HG5.out.free 5
          have x3 := HQ5.out.cell 3
          simp only [List.getElem?_toArray, List.getElem?_cons_zero, List.getElem?_cons_succ] at q5 x3
          (repeat (first | (apply can0; (· rfl); (· rfl); (· (intro w'; first | (go_simp; with_reducible rfl) | (go_simp; done))); simp only [Act.put, List.setIfInBounds_toArray, List.set_cons_zero, List.set_cons_succ]) | (apply can1; (· rfl); (· rfl); (· (first | (go_simp; with_reducible rfl) | (go_simp; done))); simp only [Act.put, List.setIfInBounds_toArray, List.set_cons_zero, List.set_cons_succ]) | (apply canN; (· rfl); (· rfl); simp only [Act.put, List.setIfInBounds_toArray, List.set_cons_zero, List.set_cons_succ]) | (apply canN1; (· rfl); (· rfl); simp only [Act.put, List.setIfInBounds_toArray, List.set_cons_zero, List.set_cons_succ]) | (apply can0; (· rfl); (· (go_simp; done)); (· (intro w'; first | (go_simp; with_reducible rfl) | (go_simp; done))); simp only [Act.put, List.setIfInBounds_toArray, List.set_cons_zero, List.set_cons_succ]) | (apply can1; (· rfl); (· (go_simp; done)); (· (first | (go_simp; with_reducible rfl) | (go_simp; done))); simp only [Act.put, List.setIfInBounds_toArray, List.set_cons_zero, List.set_cons_succ]) | (apply canN; (· rfl); (· (go_simp; done)); simp only [Act.put, List.setIfInBounds_toArray, List.set_cons_zero, List.set_cons_succ]) | (apply canN1; (· rfl); (· (go_simp; done)); simp only [Act.put, List.setIfInBounds_toArray, List.set_cons_zero, List.set_cons_succ])))
          refine canE ?_
          by_cases hfr : 0 ≤ fr
          · rw [if_pos hfr] at HZ2
            have hq6 := HQ5.out.other (p := ⟨g, 5, none⟩) (Ne.symm hgq) (.int .i64 fr)
            have x3' := hq6.cell 3
            simp only [List.getElem?_toArray, List.getElem?_cons_zero, List.getElem?_cons_succ] at x3'
            clear hq6
            go_wp2
            go_ret2
            rw [HZ2.out]
            exact ⟨_, rfl, ⟨HX5.out.setOther (p := ⟨g, 5, none⟩) (HX5.out.ne HG5.out (by decide)) _, HXN.out⟩, ⟨HG5.out.set 5 _, HW6.out.other (p := ⟨g, 5, none⟩) (Ne.symm hne) _, HK5.out.setOther (p := ⟨g, 5, none⟩) (HK5.out.ne HG5.out (by decide)) _⟩, HC5.out.setCell (p := ⟨g, 5, none⟩) (.inl (.inl rfl)) _⟩
          · rw [if_neg hfr] at HZ2
            have hfr' : fr < 0 := by omega
            go_wp2
            go_ret2
            rw [HZ2.out]
            exact ⟨_, rfl, ⟨HX5.out, HXN.out⟩, ⟨HG5.out, HW6.out, HK5.out⟩, HC5.out⟩
        · have HZ2 : Hid (Z = (⟨key, dir, viewer, out, inn, addr⟩, [], 14)) := Lib.hid (by rw [HZ1.out, if_neg hnn])
          have HW6 : Hid (Win w5 gw inn) := Lib.hid (by have h := HW5.out; rw [takeL, if_neg hnn] at h; exact h)
          rw [show takeE inn pn = 14 from if_neg hnn]
          (repeat (first | (apply can0; (· rfl); (· rfl); (· (intro w'; first | (go_simp; with_reducible rfl) | (go_simp; done))); simp only [Act.put, List.setIfInBounds_toArray, List.set_cons_zero, List.set_cons_succ]) | (apply can1; (· rfl); (· rfl); (· (first | (go_simp; with_reducible rfl) | (go_simp; done))); simp only [Act.put, List.setIfInBounds_toArray, List.set_cons_zero, List.set_cons_succ]) | (apply canN; (· rfl); (· rfl); simp only [Act.put, List.setIfInBounds_toArray, List.set_cons_zero, List.set_cons_succ]) | (apply canN1; (· rfl); (· rfl); simp only [Act.put, List.setIfInBounds_toArray, List.set_cons_zero, List.set_cons_succ]) | (apply can0; (· rfl); (· (go_simp; done)); (· (intro w'; first | (go_simp; with_reducible rfl) | (go_simp; done))); simp only [Act.put, List.setIfInBounds_toArray, List.set_cons_zero, List.set_cons_succ]) | (apply can1; (· rfl); (· (go_simp; done)); (· (first | (go_simp; with_reducible rfl) | (go_simp; done))); simp only [Act.put, List.setIfInBounds_toArray, List.set_cons_zero, List.set_cons_succ]) | (apply canN; (· rfl); (· (go_simp; done)); simp only [Act.put, List.setIfInBounds_toArray, List.set_cons_zero, List.set_cons_succ]) | (apply canN1; (· rfl); (· (go_simp; done)); simp only [Act.put, List.setIfInBounds_toArray, List.set_cons_zero, List.set_cons_succ])))
          refine canE ?_
          go_wp2
          go_ret2
          rw [HZ2.out]
          exact ⟨_, rfl, Fr.nil _ _, ⟨HG5.out, HW6.out, HK5.out⟩, HC5.out⟩
      · have hv1 : (pv != viewer) = true := by simpa using hvi
        have HZ1 : Hid (Z = (⟨key, dir, viewer, out, inn, addr⟩, [], 2)) := Lib.hid (by rw [HZ0.out, if_pos (.inr hvi)])
        (repeat (first | (apply can0; (· rfl); (· rfl); (· (intro w'; first | (go_simp; with_reducible rfl) | (go_simp; done))); simp only [Act.put, List.setIfInBounds_toArray, List.set_cons_zero, List.set_cons_succ]) | (apply can1; (· rfl); (· rfl); (· (first | (go_simp; with_reducible rfl) | (go_simp; done))); simp only [Act.put, List.setIfInBounds_toArray, List.set_cons_zero, List.set_cons_succ]) | (apply canN; (· rfl); (· rfl); simp only [Act.put, List.setIfInBounds_toArray, List.set_cons_zero, List.set_cons_succ]) | (apply canN1; (· rfl); (· rfl); simp only [Act.put, List.setIfInBounds_toArray, List.set_cons_zero, List.set_cons_succ]) | (apply can0; (· rfl); (· (go_simp; done)); (· (intro w'; first | (go_simp; with_reducible rfl) | (go_simp; done))); simp only [Act.put, List.setIfInBounds_toArray, List.set_cons_zero, List.set_cons_succ]) | (apply can1; (· rfl); (· (go_simp; done)); (· (first | (go_simp; with_reducible rfl) | (go_simp; done))); simp only [Act.put, List.setIfInBounds_toArray, List.set_cons_zero, List.set_cons_succ]) | (apply canN; (· rfl); (· (go_simp; done)); simp only [Act.put, List.setIfInBounds_toArray, List.set_cons_zero, List.set_cons_succ]) | (apply canN1; (· rfl); (· (go_simp; done)); simp only [Act.put, List.setIfInBounds_toArray, List.set_cons_zero, List.set_cons_succ])))
        refine canE ?_
        go_wp2
        go_ret2
        rw [HZ1.out]
        exact ⟨_, rfl, Fr.nil _ _, HPd.out, HCd.out.mono (fun _ _ h => h.elim)⟩
  · have HZ0 : Hid (Z = (⟨key, dir, viewer, out, inn, addr⟩, [], pe)) := Lib.hid (by rw [HTX.out, if_pos hpe])
    have hpe' : (pe != 0) = true := by simpa using hpe
    go_enter Tryd.func10, Tryd.ntmps10
    go_wp2_with fail
    go_at_call 22
    refine HO.out.mono ?_
    rintro e w1 ⟨x, rfl, hbx⟩
    have HP1 := Lib.hid (HP.out.kept hbx.2.1)
    have HC1 := Lib.hid hbx.2.1
    obtain ⟨ax, cx, rfl, _⟩ := hbx.1.form
    clear hbx HO HP
    clear q0 q1 q2 q3 q4 q5
    simp only [pkV]
    have HP2 := Lib.hid (HP1.out.kept ((Chg.refl w1 nob).alloc (.cells #[.int .i64 pd, .int .i64 pv, .int .u64 pn, .slice ax pb.length cx] 48)))
    have HC2 := Lib.hid (HC1.out.alloc (.cells #[.int .i64 pd, .int .i64 pv, .int .u64 pn, .slice ax pb.length cx] 48))
    go_wp2
    go_ret2
    rw [HZ0.out]
    exact ⟨_, rfl, Fr.nil _ _, HP2.out, HC2.out.mono (fun _ _ h => h.elim)⟩
end Go.Proofs.YtcgdmidjejmjhaaDoor
