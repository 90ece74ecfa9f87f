
/-
  One end of the line: New, Send, Take, what it tells.
-/
import Derived.Test.YtcgdmidjejmjhaaDoorPk6
namespace Go.Proofs.YtcgdmidjejmjhaaDoor
open Go.RowKit
set_option linter.unusedVariables false
set_option linter.unusedSimpArgs false

set_option maxRecDepth 100000 in
set_option maxHeartbeats 2000000 in
theorem clone_big (w : World) (va : Value) (xs : List Int) (ha : Rd w 1 va xs.length (bytesV xs)) (hn : NilOk va) (hl : xs.length ≤ 140737488351232) :
    Calls Tryd.prog 17 #[va] w fun e w' => ∃ v, e = .returned v ∧ Bx w w' v xs := by
  obtain ⟨ao, cap, rfl, hc, hlen⟩ := ha.form
  have h0 := ha.nil0 hn
  have HA := Lib.hid ha
  have HN := Lib.hid hn
  clear ha hn
  cases ao with
  | none =>
    obtain ⟨h1, h2⟩ := h0 rfl
    obtain rfl : xs = [] := List.length_eq_zero_iff.1 h1
    subst h2
    have hq := eql_nil w none 0 0
    go_enter Tryd.func17, Tryd.ntmps17
    go_wp2
    go_ret
    exact ⟨_, rfl, Bx.nil w⟩
  | some ad =>
    clear h0
    have hq := eql_nil w (some ad) xs.length cap
    go_enter Tryd.func17, Tryd.ntmps17
    go_wp2_with (at_builtin; refine wpList_bxr rfl (.tmp 5) (.tmp 6) rfl _ [] rfl (Bx.lit0 w) _ xs rfl (HA.out.alloc _) HN.out (by simp; omega) ?_)
    intro v5 w5 hb5 _
    have HB5 := Lib.hid hb5
    clear hb5
    go_wp2
    go_ret
    exact ⟨_, rfl, HB5.out⟩
/-- An end: its key, its way, the last number out and in, the other's address. -/
structure Pe where
  key : List Int
  dir : Int
  viewer : Int
  out : Int
  inn : Int
  addr : Int
structure Pe.Ok (s : Pe) : Prop where
  key : (∀ x ∈ s.key, 0 ≤ x ∧ x ≤ 255) ∧ s.key.length ≤ 1000000
  dir : s.dir = 1 ∨ s.dir = 2
  viewer : 0 ≤ s.viewer ∧ s.viewer < 8
  out : 0 ≤ s.out ∧ s.out ≤ 4611686018427387904
/-- A row of bytes of its own, made since w. -/
def Fr (w w' : World) (v : Value) (L : List Int) : Prop := Own w' 5 1 v L.length (bytesV L) ∧ ∀ k, blkOf v k → w.heap.size ≤ k
structure PeerR (w : World) (g gw : Nat) (u : Value) (s : Pe) : Prop where
  blk : Blk w g 53 #[u, .int .i64 s.dir, .int .i64 s.viewer, .int .u64 s.out, ptr gw, .int .i64 s.addr]
  win : Win w gw s.inn
  key : Own w 5 1 u s.key.length (bytesV s.key)
theorem PeerR.kept {w w' : World} {g gw : Nat} {u : Value} {s : Pe} (h : PeerR w g gw u s) (hc : Chg w w' nob) : PeerR w' g gw u s := ⟨h.blk.kept hc id, h.win.kept hc id, h.key.kept hc (fun _ _ => id)⟩
theorem PeerR.ne {w : World} {g gw : Nat} {u : Value} {s : Pe} (h : PeerR w g gw u s) : g ≠ gw := fun e => by
  subst e
  have := (h.blk.inj h.win).1
  revert this
  decide
theorem PeerR.by {w : World} {g gw : Nat} {u : Value} {s : Pe} (h : PeerR w g gw u s) (hs : s.Ok) : By w u s.key := ⟨h.key.rd, h.key.nilOk, hs.key.1⟩
theorem Fr.by {w w' : World} {v : Value} {L : List Int} (h : Fr w w' v L) (hb : ∀ x ∈ L, 0 ≤ x ∧ x ≤ 255) : By w' v L := ⟨h.1.rd, h.1.nilOk, hb⟩
theorem Fr.nil (w w' : World) : Fr w w' (.slice none 0 0) [] := ⟨World.ownsRow_nil _ _ _ _, fun k hk => by cases hk⟩
theorem Fr.ofBx {w w' : World} {v : Value} {L : List Int} (h : Bx w w' v L) : Fr w w' v L := ⟨h.1, h.2.2⟩
theorem Fr.newer {w w1 w' : World} {v : Value} {L : List Int} (h : Fr w1 w' v L) (hs : w.heap.size ≤ w1.heap.size) : Fr w w' v L := ⟨h.1, fun k hk => Nat.le_trans hs (h.2 k hk)⟩
/-- Bytes of one's own lie apart from what is no row of bytes. -/
theorem Own.apart {w w' : World} {v : Value} {n : Nat} {xs : List Value} {F : Nat → Prop} (h : Own w 5 1 v n xs) (hc : Chg w w' F) (hF : ∀ k, F k → ∃ t cs, Blk w k t cs ∧ 5 ≠ t) : Own w' 5 1 v n xs :=
  h.kept hc fun k hk hf => by
    obtain ⟨t, cs, hb, hne⟩ := hF k hf
    exact h.ne hb hne hk
def newOk (d v n : Int) : Prop := (d = 1 ∨ d = 2) ∧ 0 ≤ v ∧ v < 8 ∧ n ≤ 4611686018427387904
theorem may_one (d v : Int) : Pk.May ⟨d, v, 1, []⟩ ↔ ((d = 1 ∨ d = 2) ∧ 0 ≤ v ∧ v < 8) := by
  simp only [Pk.May, List.length_nil]
  omega
set_option maxRecDepth 100000 in
set_option maxHeartbeats 1500000 in
theorem pnew_ok (w : World) (K : List Int) (vk : Value) (d v n : Int) (hk : By w vk K) (hkl : K.length ≤ 140737488351232) (h : newOk d v n) :
    Calls Tryd.prog 6 #[vk, .int .i64 d, .int .i64 v, .int .u64 n] w fun e w' => ∃ g gw u, e = .returned (.tuple #[ptr g, .int .i64 0]) ∧ PeerR w' g gw u ⟨K, d, v, n, 0, -1⟩ ∧ Chg w w' nob ∧ w.heap.size ≤ g ∧ w.heap.size ≤ gw ∧ ∀ k, blkOf u k → w.heap.size ≤ k := by
  have HK := Lib.hid hk
  obtain ⟨h1, h2, h3, h4⟩ := h
  have HM := Lib.hid (decide_eq_true ((may_one d v).2 ⟨h1, h2, h3⟩))
  clear hk
  go_enter Tryd.func6, Tryd.ntmps6
  go_wp2_with fail
  go_at_call 16
  refine (may_any w ⟨d, v, 1, []⟩ (.slice none 0 0) (By.nilv w 0 rfl)).mono ?_
  rw [HM.out]
  rintro e w1 ⟨rfl, hc1⟩
  have HC1 := Lib.hid hc1
  clear hc1
  go_wp2_with fail
  go_at_call 17
  refine (clone_big w1 _ K (HK.out.kept HC1.out).rd (HK.out.kept HC1.out).nil hkl).mono ?_
  rintro e w2 ⟨u, rfl, hb⟩
  have HU := Lib.hid (hb.newer HC1.out)
  clear hb
  go_wp2_with fail
  go_at_call 18
  refine (newwin_any w2 0).mono ?_
  rintro e w3 ⟨gw, rfl, hw, hc3, hg⟩
  have HW := Lib.hid hw
  have HU3 := Lib.hid (HU.out.keptC hc3)
  have HG : Hid (w.heap.size ≤ gw) := Lib.hid (Nat.le_trans HU.out.2.1.size hg)
  clear hw hc3 hg
  obtain ⟨au, cu, rfl, _⟩ := HU3.out.1.form
  go_wp2
  go_ret2
  refine ⟨w3.heap.size, gw, _, rfl, ⟨Blk.new w3 _ _, HW.out.alloc _, HU3.out.1.kept ((Chg.refl w3 nob).alloc _) (fun _ _ => id)⟩, HU3.out.2.1.alloc _, HU3.out.2.1.size, HG.out, HU3.out.2.2⟩
set_option maxRecDepth 100000 in
set_option maxHeartbeats 1500000 in
theorem pnew_no (w : World) (vk : Value) (d v n : Int) (h : ¬ newOk d v n) :
    Calls Tryd.prog 6 #[vk, .int .i64 d, .int .i64 v, .int .u64 n] w fun e w' => e = .returned (.tuple #[.pointer none, .int .i64 1]) ∧ Chg w w' nob := by
  by_cases hm : Pk.May ⟨d, v, 1, []⟩
  · have HM := Lib.hid (decide_eq_true hm)
    have hn : 4611686018427387904 < n := by
      have h1 := (may_one d v).1 hm
      unfold newOk at h
      omega
    go_enter Tryd.func6, Tryd.ntmps6
    go_wp2_with fail
    go_at_call 16
    refine (may_any w ⟨d, v, 1, []⟩ (.slice none 0 0) (By.nilv w 0 rfl)).mono ?_
    rw [HM.out]
    rintro e w1 ⟨rfl, hc1⟩
    go_wp2
    go_ret2
    exact ⟨rfl, hc1⟩
  · have HM := Lib.hid (decide_eq_false hm)
    go_enter Tryd.func6, Tryd.ntmps6
    go_wp2_with fail
    go_at_call 16
    refine (may_any w ⟨d, v, 1, []⟩ (.slice none 0 0) (By.nilv w 0 rfl)).mono ?_
    rw [HM.out]
    rintro e w1 ⟨rfl, hc1⟩
    go_wp2
    go_ret2
    exact ⟨rfl, hc1⟩
def sendE (s : Pe) (b : List Int) : Int := if 4611686018427387904 ≤ s.out then 17 else if 1200 < b.length then 4 else 0
def sendL (s : Pe) (b : List Int) : List Int := if sendE s b = 0 then sealL s.key ⟨s.dir, s.viewer, s.out + 1, b⟩ else []
def sendS (s : Pe) (b : List Int) : Pe := if sendE s b = 0 then { s with out := s.out + 1 } else s
set_option maxRecDepth 100000 in
set_option maxHeartbeats 1500000 in
theorem psend_any (w : World) (g gw : Nat) (u vb : Value) (s : Pe) (b : List Int) (ht : Tab w) (h : PeerR w g gw u s) (hs : s.Ok) (hb : By w vb b) :
    Calls Tryd.prog 8 #[ptr g, vb] w fun e w' => ∃ x, e = .returned (.tuple #[x, .int .i64 (sendE s b)]) ∧ Fr w w' x (sendL s b) ∧ PeerR w' g gw u (sendS s b) ∧ Chg w w' (fun k => k = g) := by
  obtain ⟨ab, cb, rfl, hcb⟩ := hb.form
  obtain ⟨au, cu, rfl, _⟩ := h.key.form
  have HP := Lib.hid h
  have HB := Lib.hid hb
  have HT := Lib.hid ht
  have HS := Lib.hid hs
  have h0 : (0 : Int) ≤ (b.length : Int) := by omega
  clear h hb ht hs
  obtain ⟨key, dir, viewer, out, inn, addr⟩ := s
  have q0 := HP.out.blk.cell 0
  have q1 := HP.out.blk.cell 1
  have q2 := HP.out.blk.cell 2
  have q3 := HP.out.blk.cell 3
  have q4 := HP.out.blk.cell 4
  have q5 := HP.out.blk.cell 5
  simp only [List.getElem?_toArray, List.getElem?_cons_zero, List.getElem?_cons_succ] at q0 q1 q2 q3 q4 q5
  try simp only at q0 q1 q2 q3 q4 q5
  by_cases h1 : 4611686018427387904 ≤ out
  · have HE : Hid (sendE ⟨key, dir, viewer, out, inn, addr⟩ b = 17) := Lib.hid (if_pos h1)
    have HL : Hid (sendL ⟨key, dir, viewer, out, inn, addr⟩ b = [] ∧ sendS ⟨key, dir, viewer, out, inn, addr⟩ b = ⟨key, dir, viewer, out, inn, addr⟩) := Lib.hid ⟨by unfold sendL; rw [HE.out]; rfl, by unfold sendS; rw [HE.out]; rfl⟩
    rw [HE.out, HL.out.1, HL.out.2]
    go_enter Tryd.func8, Tryd.ntmps8
    go_wp2
    go_ret2
    exact ⟨_, rfl, Fr.nil _ _, HP.out, Chg.refl _ _⟩
  · by_cases h2 : 1200 < b.length
    · have HE : Hid (sendE ⟨key, dir, viewer, out, inn, addr⟩ b = 4) := Lib.hid (by unfold sendE; rw [if_neg h1, if_pos h2])
      have HL : Hid (sendL ⟨key, dir, viewer, out, inn, addr⟩ b = [] ∧ sendS ⟨key, dir, viewer, out, inn, addr⟩ b = ⟨key, dir, viewer, out, inn, addr⟩) := Lib.hid ⟨by unfold sendL; rw [HE.out]; rfl, by unfold sendS; rw [HE.out]; rfl⟩
      rw [HE.out, HL.out.1, HL.out.2]
      have h1' : out < 4611686018427387904 := by omega
      have h2' : (1200 : Int) < (b.length : Int) := by omega
      go_enter Tryd.func8, Tryd.ntmps8
      go_wp2
      go_ret2
      exact ⟨_, rfl, Fr.nil _ _, HP.out, Chg.refl _ _⟩
    · have HE : Hid (sendE ⟨key, dir, viewer, out, inn, addr⟩ b = 0) := Lib.hid (by unfold sendE; rw [if_neg h1, if_neg h2])
      have HL : Hid (sendL ⟨key, dir, viewer, out, inn, addr⟩ b = sealL key ⟨dir, viewer, out + 1, b⟩ ∧ sendS ⟨key, dir, viewer, out, inn, addr⟩ b = ⟨key, dir, viewer, out + 1, inn, addr⟩) := Lib.hid ⟨by unfold sendL; rw [HE.out]; rfl, by unfold sendS; rw [HE.out]; rfl⟩
      rw [HE.out, HL.out.1, HL.out.2]
      have h1' : out < 4611686018427387904 := by omega
      have h2' : (b.length : Int) ≤ 1200 := by omega
      obtain ⟨o1, o2⟩ := HS.out.out
      simp only at o1 o2
      have hw1 : IntKind.u64.wrap (out + 1) = out + 1 := wrp_u64v _ (by omega) (by omega)
      have hmy : Pk.May ⟨dir, viewer, out + 1, b⟩ := ⟨HS.out.dir, HS.out.viewer.1, HS.out.viewer.2, by (show 1 ≤ out + 1); omega, by (show out + 1 ≤ _); omega, by (show b.length ≤ 1200); omega⟩
      have HMY := Lib.hid hmy
      have HOK : Hid (Pk.Ok ⟨dir, viewer, out + 1, b⟩) := Lib.hid ⟨by have := HS.out.dir; simp only at this ⊢; omega, by have := HS.out.viewer; simp only at this ⊢; omega, by (show 0 ≤ out + 1 ∧ out + 1 ≤ _); omega⟩
      clear hmy
      go_enter Tryd.func8, Tryd.ntmps8
      go_wp2_with fail
      refine wp_one [3, 7, 11, 15] [19] [] [0, 1, 2, 3, 4, 5, 6, 7, 8, 9, 10, 11, 12, 13, 14, 15, 16, 17, 18, 19, 20, 21, 22, 23, 24] rfl (by kernel_rfl) (fun _ _ _ _ _ h => h) ?_; simp only [List.map_cons, List.map_nil, List.getElem?_toArray, List.getElem?_cons_zero, List.getElem?_cons_succ]
      obtain ⟨wd, hwd⟩ : ∃ W, World.drew w = W := ⟨_, rfl⟩
      have hcd : Chg w wd nob := by rw [← hwd]; exact (Chg.refl w nob).drew
      rw [hwd]
      have HPd := Lib.hid (HP.out.kept hcd)
      have HCd := Lib.hid hcd
      clear hwd q0 q1 q2 q3 q4 q5 hcd
      have q0 := HPd.out.blk.cell 0
      have q1 := HPd.out.blk.cell 1
      have q2 := HPd.out.blk.cell 2
      have q3 := HPd.out.blk.cell 3
      have q4 := HPd.out.blk.cell 4
      have q5 := HPd.out.blk.cell 5
      simp only [List.getElem?_toArray, List.getElem?_cons_zero, List.getElem?_cons_succ] at q0 q1 q2 q3 q4 q5
      try simp only at q0 q1 q2 q3 q4 q5
      (repeat (first | (apply can0; (· rfl); (· rfl); (· (intro w'; first | (go_simp; with_reducible rfl) | (go_simp; done))); simp only [Act.put, List.setIfInBounds_toArray, List.set_cons_zero, List.set_cons_succ]) | (apply can1; (· rfl); (· rfl); (· (first | (go_simp; with_reducible rfl) | (go_simp; done))); simp only [Act.put, List.setIfInBounds_toArray, List.set_cons_zero, List.set_cons_succ]) | (apply canN; (· rfl); (· rfl); simp only [Act.put, List.setIfInBounds_toArray, List.set_cons_zero, List.set_cons_succ]) | (apply canN1; (· rfl); (· rfl); simp only [Act.put, List.setIfInBounds_toArray, List.set_cons_zero, List.set_cons_succ]) | (apply can0; (· rfl); (· (go_simp; done)); (· (intro w'; first | (go_simp; with_reducible rfl) | (go_simp; done))); simp only [Act.put, List.setIfInBounds_toArray, List.set_cons_zero, List.set_cons_succ]) | (apply can1; (· rfl); (· (go_simp; done)); (· (first | (go_simp; with_reducible rfl) | (go_simp; done))); simp only [Act.put, List.setIfInBounds_toArray, List.set_cons_zero, List.set_cons_succ]) | (apply canN; (· rfl); (· (go_simp; done)); simp only [Act.put, List.setIfInBounds_toArray, List.set_cons_zero, List.set_cons_succ]) | (apply canN1; (· rfl); (· (go_simp; done)); simp only [Act.put, List.setIfInBounds_toArray, List.set_cons_zero, List.set_cons_succ])))
      refine canW rfl [] rfl (fun K hK => ?_)
      go_simp
      go_at_call 20
      have hsl := seal_any wd ⟨dir, viewer, out + 1, b⟩ key (.slice au key.length cu) (.slice ab b.length cb) (HT.out.kept HCd.out id) (HPd.out.by HS.out) (HB.out.kept HCd.out) HOK.out HS.out.key.2 (by (show b.length ≤ 100000); omega)
      rw [show sealR key ⟨dir, viewer, out + 1, b⟩ = sealL key ⟨dir, viewer, out + 1, b⟩ from if_pos HMY.out, show sealE ⟨dir, viewer, out + 1, b⟩ = 0 from if_pos HMY.out] at hsl
      refine hsl.mono ?_
      clear hsl
      rintro e w2 ⟨x, rfl, hbx⟩
      have HX := Lib.hid (hbx.newer HCd.out)
      have HP2 := Lib.hid (HPd.out.kept hbx.2.1)
      obtain ⟨ax, cx, rfl, _⟩ := hbx.1.form
      clear hbx q0 q1 q2 q3 q4 q5
      have q0 := HP2.out.blk.cell 0
      have q1 := HP2.out.blk.cell 1
      have q2 := HP2.out.blk.cell 2
      have q3 := HP2.out.blk.cell 3
      have q4 := HP2.out.blk.cell 4
      have q5 := HP2.out.blk.cell 5
      simp only [List.getElem?_toArray, List.getElem?_cons_zero, List.getElem?_cons_succ] at q0 q1 q2 q3 q4 q5
      try simp only at q0 q1 q2 q3 q4 q5
      have f3 := HP2.out.blk.free 3
      (refine hK _ _ (fun u hu => by cases hu) ?_; clear hK K; try simp only [Act.put, List.setIfInBounds_toArray, List.set_cons_zero, List.set_cons_succ])
      (repeat (first | (apply can0; (· rfl); (· rfl); (· (intro w'; first | (go_simp; with_reducible rfl) | (go_simp; done))); simp only [Act.put, List.setIfInBounds_toArray, List.set_cons_zero, List.set_cons_succ]) | (apply can1; (· rfl); (· rfl); (· (first | (go_simp; with_reducible rfl) | (go_simp; done))); simp only [Act.put, List.setIfInBounds_toArray, List.set_cons_zero, List.set_cons_succ]) | (apply canN; (· rfl); (· rfl); simp only [Act.put, List.setIfInBounds_toArray, List.set_cons_zero, List.set_cons_succ]) | (apply canN1; (· rfl); (· rfl); simp only [Act.put, List.setIfInBounds_toArray, List.set_cons_zero, List.set_cons_succ]) | (apply can0; (· rfl); (· (go_simp; done)); (· (intro w'; first | (go_simp; with_reducible rfl) | (go_simp; done))); simp only [Act.put, List.setIfInBounds_toArray, List.set_cons_zero, List.set_cons_succ]) | (apply can1; (· rfl); (· (go_simp; done)); (· (first | (go_simp; with_reducible rfl) | (go_simp; done))); simp only [Act.put, List.setIfInBounds_toArray, List.set_cons_zero, List.set_cons_succ]) | (apply canN; (· rfl); (· (go_simp; done)); simp only [Act.put, List.setIfInBounds_toArray, List.set_cons_zero, List.set_cons_succ]) | (apply canN1; (· rfl); (· (go_simp; done)); simp only [Act.put, List.setIfInBounds_toArray, List.set_cons_zero, List.set_cons_succ])))
      refine canE ?_
      go_wp2
      go_ret2
      have hne := HP2.out.ne
      refine ⟨_, rfl, ⟨HX.out.1.setOther (p := ⟨g, 3, none⟩) (HX.out.1.ne HP2.out.blk (by decide)) _, HX.out.2.2⟩, ⟨HP2.out.blk.set 3 _, HP2.out.win.other (p := ⟨g, 3, none⟩) (Ne.symm hne) _, HP2.out.key.setOther (p := ⟨g, 3, none⟩) (HP2.out.key.ne HP2.out.blk (by decide)) _⟩, (HX.out.2.1.mono (G := fun k => k = g) (fun _ _ h => h.elim)).setCell (p := ⟨g, 3, none⟩) (.inl rfl) _⟩
set_option maxRecDepth 100000 in
theorem paddr_any (w : World) (g gw : Nat) (u : Value) (s : Pe) (h : PeerR w g gw u s) : Calls Tryd.prog 13 #[ptr g] w fun e w' => e = .returned (.int .i64 s.addr) ∧ w = w' := by
  have HP := Lib.hid h
  have q5 := h.blk.cell 5
  simp only [List.getElem?_toArray, List.getElem?_cons_zero, List.getElem?_cons_succ] at q5
  clear h
  go_enter Tryd.func13, Tryd.ntmps13
  go_wp2
  go_ret
  exact ⟨rfl, rfl⟩
set_option maxRecDepth 100000 in
theorem pout_any (w : World) (g gw : Nat) (u : Value) (s : Pe) (h : PeerR w g gw u s) : Calls Tryd.prog 14 #[ptr g] w fun e w' => e = .returned (.int .u64 s.out) ∧ w = w' := by
  have q3 := h.blk.cell 3
  simp only [List.getElem?_toArray, List.getElem?_cons_zero, List.getElem?_cons_succ] at q3
  clear h
  go_enter Tryd.func14, Tryd.ntmps14
  go_wp2
  go_ret
  exact ⟨rfl, rfl⟩
set_option maxRecDepth 100000 in
theorem pin_any (w : World) (g gw : Nat) (u : Value) (s : Pe) (h : PeerR w g gw u s) : Calls Tryd.prog 15 #[ptr g] w fun e w' => e = .returned (.int .u64 s.inn) ∧ w = w' := by
  have HP := Lib.hid h
  have q4 := h.blk.cell 4
  simp only [List.getElem?_toArray, List.getElem?_cons_zero, List.getElem?_cons_succ] at q4
  clear h
  go_enter Tryd.func15, Tryd.ntmps15
  go_wp2_with fail
  go_at_call 25
  refine (last_any w gw s.inn HP.out.win).mono ?_
  rintro e x ⟨rfl, rfl⟩
  go_wp2
  go_ret
  exact ⟨rfl, rfl⟩
end Go.Proofs.YtcgdmidjejmjhaaDoor
