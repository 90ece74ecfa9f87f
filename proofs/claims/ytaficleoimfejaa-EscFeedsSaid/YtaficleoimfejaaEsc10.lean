/-
  Chapter 8: a new one; all signs; what is told.
-/
import Derived.Test.YtaficleoimfejaaEsc9
namespace Go.Proofs.Ytaficleoimfejaa
open Go.RowKit
set_option linter.unusedVariables false
set_option linter.unusedSimpArgs false

def newS : PS := ⟨0, [], false, 0, 0, false, [], []⟩
def runS (s : PS) (l : List Int) : PS := l.foldl takeS s
theorem runS_snoc (s : PS) (l : List Int) (r : Int) : runS s (l ++ [r]) = takeS (runS s l) r := by unfold runS; rw [List.foldl_append]; rfl
theorem runS_app (s : PS) (l m : List Int) : runS s (l ++ m) = runS (runS s l) m := by unfold runS; rw [List.foldl_append]
theorem PSok.run {s : PS} {n : Nat} (h : PSok s n) : ∀ (l : List Int), PSok (runS s l) (n + l.length) := fun l => by
  induction l generalizing s n with
  | nil => exact h
  | cons r t ih =>
    have := ih (good_take (r := r) h)
    rw [List.length_cons, show n + (t.length + 1) = n + 1 + t.length by omega]
    exact this
theorem newS_ok : PSok newS 0 := ⟨by simp [newS], by simp [newS], fun h => by simp [newS] at h, by simp [newS], by simp [newS], by simp [newS], fun x hx => by simp [newS] at hx⟩
/-- Events that were told: D has their blocks. -/
def EVS (w : World) (v : Value) (l : List Ev) (D : Nat → Prop) : Prop :=
  ∃ q : List (Ev × Value), q.map Prod.fst = l ∧ Own w 41 7 v q.length (q.flatMap evc) ∧ (∀ x ∈ q, Rd w 1 x.2 x.1.ps.length (intI x.1.ps) ∧ ∀ k, blkOf x.2 k → D k) ∧ ∀ k, blkOf v k → D k
theorem EVS.kept {w w' : World} {v : Value} {l : List Ev} {D F : Nat → Prop} (h : EVS w v l D) (hc : Chg w w' F) (hD : ∀ k, D k → ¬ F k) : EVS w' v l D := by
  obtain ⟨q, h1, h2, h3, h4⟩ := h
  exact ⟨q, h1, h2.kept hc (fun k hk => hD k (h4 k hk)), fun x hx => ⟨(h3 x hx).1.kept hc (fun k hk => hD k ((h3 x hx).2 k hk)), (h3 x hx).2⟩, h4⟩
theorem take_snoc {α : Type} {l : List α} {k : Nat} (h : k < l.length) (d : α) : l.take (k + 1) = l.take k ++ [l.getD k d] := by
  rw [List.take_succ_eq_append_getElem h]; simp [List.getD, h]

set_option maxHeartbeats 1000000 in
theorem new_any (w : World) : Calls Try.prog 8 #[] w fun e w' => ∃ p, e = .returned (.pointer (some ⟨p, 0, none⟩)) ∧ Chg w w' nob ∧ PR w' p newS (fun k => k = p) nob ∧ p = w.heap.size := by
  go_enter Try.func8, Try.ntmps8
  go_wp2
  go_ret
  refine ⟨w.heap.size, rfl, (Chg.refl w nob).alloc _, ⟨[], .slice none 0 0, .slice none 0 0, .slice none 0 0, Blk.new w _ _, World.ownsRow_nil _ _ _ _, World.ownsRow_nil _ _ _ _, World.ownsRow_nil _ _ _ _, rfl, fun x hx => by simp at hx, fun k => ⟨.inl, fun h => ?_⟩⟩, rfl⟩
  rcases h with h | h | h | h
  · exact h
  · cases h
  · cases h
  · cases h
set_option maxHeartbeats 1000000 in
theorem state_any {w : World} {p : Nat} {s : PS} {F G : Nat → Prop} (h : PR w p s F G) : Calls Try.prog 13 #[.pointer (some ⟨p, 0, none⟩)] w fun e w' => e = .returned (.int .i64 s.st) ∧ w' = w := by
  have hc0 := h.nums.1
  clear h
  go_enter Try.func13, Try.ntmps13
  go_wp2
  go_ret
  exact ⟨rfl, rfl⟩

set_option maxRecDepth 100000 in
set_option maxHeartbeats 4000000 in
theorem feed_any {w : World} {p : Nat} {s : PS} {F : Nat → Prop} {n : Nat} (h : PR w p s F nob) (hso : s.out = []) (hg : PSok s n) (va : Value) (l : List Int) (ha : Rd w 1 va l.length (runesV l)) (hd : l ≠ [] → ∀ k, blkOf va k → ¬ F k) (hl : n + l.length ≤ 900000) :
    Calls Try.prog 11 #[.pointer (some ⟨p, 0, none⟩), va] w fun e w' =>
      ∃ v F' D, e = .returned v ∧ Chg w w' F ∧ PR w' p { runS s l with out := [] } F' nob ∧ EVS w' v (runS s l).out D ∧ (∀ k, F' k → F k ∨ w.heap.size ≤ k) ∧ ∀ k, D k → (F k ∨ w.heap.size ≤ k) ∧ ¬ F' k ∧ k < w'.heap.size := by
  obtain ⟨a1, c1, rfl, hn1, hlen1, hx1⟩ := ha
  have hcell : ∀ k, k < l.length → ∃ g o, a1 = some ⟨g, o, none⟩ ∧ ¬ F g ∧ w.cell? ⟨g, o + k, none⟩ = some (.int .i32 (l.getD k 0)) := fun k hk => by
    obtain ⟨g, o, h1, h2⟩ := hx1 k (.int .i32 (l.getD k 0)) (by simp [runesV, List.getD, hk])
    exact ⟨g, o, h1, hd (by intro hn; rw [hn] at hk; simp at hk) g (by rw [h1]; rfl), h2⟩
  have hU0 : UP p s F nob w (w.setCell ⟨p, 7, none⟩ (.slice none 0 0)) := by
    obtain ⟨q, vp, vt, vo, hb, i1, i2, i3, i4, i5, i6⟩ := h
    have hcp : Chg w (w.setCell ⟨p, 7, none⟩ (.slice none 0 0)) (fun x => x = p) := chg1 _ _ _ _
    have hFp := (i6 p).2 (.inl rfl)
    refine ⟨hcp.mono (fun x _ e => by subst e; exact hFp), fun x => x = p ∨ blkOf vp x ∨ blkOf vt x ∨ blkOf (.slice none 0 0) x, nob, ⟨[], vp, vt, .slice none 0 0, hb.set 7 _, i1.kept hcp (fun k hk e => by subst e; exact i1.ne hb (by decide) hk), i2.kept hcp (fun k hk e => by subst e; exact i2.ne hb (by decide) hk), World.ownsRow_nil _ _ _ _, by rw [hso]; rfl, fun x hx => by simp at hx, fun _ => Iff.rfl⟩, fun x hx => ?_, fun x hx => hx.elim⟩
    rcases hx with hx | hx | hx | hx
    · exact .inl ((i6 x).2 (.inl hx))
    · exact .inl ((i6 x).2 (.inr (.inl hx)))
    · exact .inl ((i6 x).2 (.inr (.inr (.inl hx))))
    · cases hx
  have hf7 : w.frozen? ⟨p, 7, none⟩ = false := by obtain ⟨q, vp, vt, vo, hb, _⟩ := h; exact hb.free 7
  have hc7 : ∃ vo, w.cell? ⟨p, 7, none⟩ = some vo := by obtain ⟨q, vp, vt, vo, hb, _⟩ := h; exact ⟨vo, by rw [hb.cell]; rfl⟩
  obtain ⟨vo0, hc7⟩ := hc7
  have HU0 := Lib.hid hU0
  have HC := Lib.hid hcell
  have HG := Lib.hid hg
  clear hcell hd hx1 h hlen1 hg hU0 hso
  go_enter Try.func11, Try.ntmps11
  go_wp2
  go_loopw [13] (fun i wr => ∃ k : Nat, k ≤ l.length ∧ i = .int .i64 k ∧ UP p (runS s (l.take k)) F nob w wr)
    (fun i _ => l.length - (intOf i).toNat)
  case atStart => exact ⟨0, Nat.zero_le _, rfl, HU0.out⟩
  case round =>
    obtain ⟨k, hk, rfl, hU⟩ := hrel
    have HU := Lib.hid hU
    clear hU
    by_cases hkl : k < l.length
    · have hkn : (k : Int) < (l.length : Int) := by omega
      obtain ⟨g, o, rfl, hng, hcx⟩ := HC.out k hkl
      have hcr := HU.out.1.cell hcx hng
      have hst := runS_snoc s (l.take k) (l.getD k 0)
      rw [← take_snoc hkl] at hst
      have hok := HG.out.run (l.take k)
      rw [List.length_take, Nat.min_eq_left hk] at hok
      generalize l.getD k 0 = c at *
      have HST := Lib.hid hst
      have HOK := Lib.hid hok
      clear hst hok hcx
      obtain ⟨hcU, F1, G1, hP1, hF1, hG1⟩ := HU.out
      have HP1 := Lib.hid hP1
      have HS : Hid (∀ w3 s2, UP p s2 F1 G1 wr w3 → UP p s2 F nob w w3) := Lib.hid (fun w3 s2 h => UP.step hcU hF1 hG1 h)
      clear hcU hF1 hG1 hP1 HU
      go_wp2_with fail
      go_at_call 17
      refine (take_any HP1.out HOK.out (by omega) c).mono ?_
      rintro e w2 ⟨rfl, hU2⟩
      have HU2 := Lib.hid (HS.out _ _ hU2)
      rw [← HST.out] at HU2
      clear hU2 HS HP1 hcr
      go_wp2
      go_roundw
      case rel => exact ⟨k + 1, by omega, by go_num, HU2.out⟩
      case measure => simp [intOf]; omega
    · obtain rfl : k = l.length := by omega
      rw [List.take_length] at HU
      obtain ⟨hcU, F1, G1, ⟨q, vp, vt, vo, hb, i1, i2, i3, i4, i5, i6⟩, hF1, hG1⟩ := HU.out
      have hcr7 : wr.cell? ⟨p, 7, none⟩ = some vo := by rw [hb.cell]; rfl
      have hfr7 : wr.frozen? ⟨p, 7, none⟩ = false := hb.free 7
      have HB := Lib.hid hb
      have I1 := Lib.hid i1
      have I2 := Lib.hid i2
      have I3 := Lib.hid i3
      have I4 := Lib.hid i4
      have I5 := Lib.hid i5
      have I6 := Lib.hid i6
      have HF1 := Lib.hid hF1
      have HG1 := Lib.hid hG1
      have HCU := Lib.hid hcU
      clear hb i1 i2 i3 i4 i5 i6 hF1 hG1 hcU HU
      obtain ⟨ao, cap, rfl, _, _, _, _⟩ := I3.out.form
      go_wp2
      go_ret
      have hcp : Chg wr (wr.setCell ⟨p, 7, none⟩ (.slice none 0 0)) (fun x => x = p) := chg1 _ _ _ _
      have hFp := (I6.out p).2 (.inl rfl)
      have hsz := HCU.out.size
      refine ⟨_, fun x => x = p ∨ blkOf vp x ∨ blkOf vt x ∨ blkOf (.slice none 0 0) x, fun k => blkOf (.slice ao q.length cap) k ∨ ∃ x ∈ q, blkOf x.2 k, rfl, HCU.out.setCell (p := ⟨p, 7, none⟩) ((HF1.out p hFp)) _,
        ⟨[], vp, vt, .slice none 0 0, HB.out.set 7 _, I1.out.kept hcp (fun k hk e => by subst e; exact I1.out.ne HB.out (by decide) hk), I2.out.kept hcp (fun k hk e => by subst e; exact I2.out.ne HB.out (by decide) hk), World.ownsRow_nil _ _ _ _, rfl, fun x hx => by simp at hx, fun _ => Iff.rfl⟩,
        ⟨q, I4.out, I3.out.kept hcp (fun k hk e => by subst e; exact I3.out.ne HB.out (by decide) hk), fun x hx => ⟨(I5.out x hx).1.kept hcp (fun k hk e => by subst e; exact ((I5.out x hx).2 _ hk).2.1 hFp), fun k hk => .inr ⟨x, hx, hk⟩⟩, fun k hk => .inl hk⟩, fun x hx => HF1.out x ?_, fun k hk => ?_⟩
      · rcases hx with hx | hx | hx | hx
        · exact (I6.out x).2 (.inl hx)
        · exact (I6.out x).2 (.inr (.inl hx))
        · exact (I6.out x).2 (.inr (.inr (.inl hx)))
        · cases hx
      · have hs7 : (wr.setCell ⟨p, 7, none⟩ (.slice none 0 0)).heap.size = wr.heap.size := by simp [World.setCell]
        rw [hs7]
        rcases hk with hk | ⟨x, hx, hk⟩
        · refine ⟨HF1.out k ((I6.out k).2 (.inr (.inr (.inr hk)))), fun h => ?_, I3.out.lt hk⟩
          rcases h with h | h | h | h
          · subst h; exact I3.out.ne HB.out (by decide) hk
          · exact I3.out.apart I1.out (by decide) hk h
          · exact I3.out.apart I2.out (by decide) hk h
          · cases h
        · have h5 := (I5.out x hx).2 k hk
          refine ⟨(HG1.out k h5.1).resolve_left id, fun h => h5.2.1 ?_, h5.2.2⟩
          rcases h with h | h | h | h
          · exact (I6.out k).2 (.inl h)
          · exact (I6.out k).2 (.inr (.inl h))
          · exact (I6.out k).2 (.inr (.inr (.inl h)))
          · cases h
end Go.Proofs.Ytaficleoimfejaa
