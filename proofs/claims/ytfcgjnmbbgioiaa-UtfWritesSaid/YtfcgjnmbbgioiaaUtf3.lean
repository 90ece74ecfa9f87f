/-
  Package utf: take.
-/
import Derived.Test.YtfcgjnmbbgioiaaUtf2
import Derived.Deep.DeepCutAuto
import Derived.Deep.CutBlock
namespace Go.Proofs.Ytfcgjnmbbgioiaa
open Go.RowKit
set_option linter.unusedVariables false
set_option linter.unusedSimpArgs false

theorem u_bytes : Try.prog.underlying 22 = some (.slice 5) := by kernel_rfl
theorem i_byte : (Try.prog.info? 5).map (fun i => (i.zero, i.size, i.bytes)) = some (some (.int .u8 0), 1, 1) := by kernel_rfl
theorem u_runes : Try.prog.underlying 31 = some (.slice 21) := by kernel_rfl
theorem i_rune : (Try.prog.info? 21).map (fun i => (i.zero, i.size, i.bytes)) = some (some (.int .i32 0), 1, 4) := by kernel_rfl

def runesV (l : List Int) : List Value := l.map (Value.int .i32)
/-- A byte where it may stand: what waits then, and the signs that it ends. -/
def takeF (s : List Int) (c : Int) : List Int × List Int :=
  if lenB ((s ++ [c]).headD 0) = 0 then ([], [65533]) else if lenB ((s ++ [c]).headD 0) = (s ++ [c]).length then ([], [signR (s ++ [c])]) else (s ++ [c], [])
def takeD (s : List Int) (c : Int) : List Int × List Int :=
  if s ≠ [] ∧ folB (s.headD 0) c s.length = false then ((takeF [] c).1, 65533 :: (takeF [] c).2) else takeF s c
/-- What can wait. -/
def Waits (s : List Int) : Prop := s = [] ∨ (s.length : Int) < lenB (s.headD 0)
theorem lenB_le (c : Int) : 0 ≤ lenB c ∧ lenB c ≤ 4 := by unfold lenB; (repeat' split) <;> omega
theorem Waits.len {s : List Int} (h : Waits s) : s.length ≤ 3 := by
  rcases h with rfl | h
  · simp
  · have := lenB_le (s.headD 0); omega
theorem Own.lit (w : World) (e : TypeId) (cs : Array Value) (h : cs.size ≤ 1000) : Own (w.alloc (.cells cs e)) e 1 (.slice (some ⟨w.heap.size, 0, none⟩) cs.size cs.size) cs.size cs.toList :=
  ⟨by simp, .inr ⟨w.heap.size, cs.size, cs, rfl, Nat.zero_le _, heap_alloc_new w _, Nat.le_refl _, by unfold maxLen; omega, by simp, by rw [Nat.mul_one]; exact List.take_of_length_le (by simp)⟩⟩

theorem Own.lit' (w w1 : World) (hw : w1.heap.size = w.heap.size) (e : TypeId) (cs : Array Value) (h : cs.size ≤ 1000) : Own (w1.alloc (.cells cs e)) e 1 (.slice (some ⟨w.heap.size, 0, none⟩) cs.size cs.size) cs.size cs.toList := by rw [← hw]; exact Own.lit w1 e cs h
theorem headD_get (l : List Int) : l.getD 0 0 = l.headD 0 := by cases l <;> rfl
set_option maxHeartbeats 4000000 in
theorem takeF_any (w : World) (b : Nat) (F : Nat → Prop) (s : List Int) (c : Int) (h : Dec w b s F) (hs : s.length ≤ 3) (hf : s = [] ∨ folB (s.headD 0) c s.length = true) (hc : 0 ≤ c ∧ c ≤ 255) :
    Calls Try.prog 21 #[.pointer (some ⟨b, 0, none⟩), .int .u8 c] w fun e w' =>
      ∃ v, e = .returned v ∧ Own w' 21 1 v (takeF s c).2.length (runesV (takeF s c).2) ∧ Chg w w' F ∧ (∃ F', Dec w' b (takeF s c).1 F' ∧ ∀ k, F' k → F k ∨ w.heap.size ≤ k) ∧ ∀ k, blkOf v k → w.heap.size ≤ k := by
  have h' := h
  obtain ⟨v, hb, ho, rfl, hl, hx⟩ := h'
  obtain ⟨ao, cap, rfl, hcap, hmax, hnone, hsome⟩ := ho.form
  have hc0 : w.cell? ⟨b, 0, none⟩ = some (.slice ao s.length cap) := by rw [hb.cell]; rfl
  have hf0 : w.frozen? ⟨b, 0, none⟩ = false := hb.free 0
  have hne := ho.ne hb (by decide)
  obtain ⟨hc1, hc2⟩ := hc
  have HF := Lib.hid hf
  have HX := Lib.hid hx
  have HD := Lib.hid h
  clear hf hx h
  go_enter Try.func21, Try.ntmps21
  go_upto_region 1 with (fail)
  go_cut [27] (fun v wx => v = .bool false ∧ wx = w.drew)
  case first =>
    by_cases hs0 : s = []
    · have hs1 : s.length = 0 := by rw [hs0]; rfl
      rw [hs1] at hc0
      clear hs0 HD ho hb
      refine wp_one [3, 10, 12, 17] [19] [] [0, 1, 2, 3, 4, 5, 6, 7, 8, 9, 10, 11, 12, 13, 14, 15, 16, 17, 18, 19, 20, 21] rfl (by kernel_rfl) (fun _ _ _ _ _ h => h) ?_; simp only [List.map_cons, List.map_nil, List.getElem?_toArray, List.getElem?_cons_zero, List.getElem?_cons_succ]
      (repeat (first | (apply can0; (· rfl); (· rfl); (· (intro w'; first | (go_simp; with_reducible rfl) | (go_simp; done))); simp only [Act.put, List.setIfInBounds_toArray, List.set_cons_zero, List.set_cons_succ]) | (apply can1; (· rfl); (· rfl); (· (first | (go_simp; with_reducible rfl) | (go_simp; done))); simp only [Act.put, List.setIfInBounds_toArray, List.set_cons_zero, List.set_cons_succ]) | (apply canN; (· rfl); (· rfl); simp only [Act.put, List.setIfInBounds_toArray, List.set_cons_zero, List.set_cons_succ]) | (apply canN1; (· rfl); (· rfl); simp only [Act.put, List.setIfInBounds_toArray, List.set_cons_zero, List.set_cons_succ]) | (apply can0; (· rfl); (· (go_simp; done)); (· (intro w'; first | (go_simp; with_reducible rfl) | (go_simp; done))); simp only [Act.put, List.setIfInBounds_toArray, List.set_cons_zero, List.set_cons_succ]) | (apply can1; (· rfl); (· (go_simp; done)); (· (first | (go_simp; with_reducible rfl) | (go_simp; done))); simp only [Act.put, List.setIfInBounds_toArray, List.set_cons_zero, List.set_cons_succ]) | (apply canN; (· rfl); (· (go_simp; done)); simp only [Act.put, List.setIfInBounds_toArray, List.set_cons_zero, List.set_cons_succ]) | (apply canN1; (· rfl); (· (go_simp; done)); simp only [Act.put, List.setIfInBounds_toArray, List.set_cons_zero, List.set_cons_succ])))
      refine canM rfl [] rfl rfl (fun u hu => by cases hu) ?_
      (repeat (first | (apply can0; (· rfl); (· rfl); (· (intro w'; first | (go_simp; with_reducible rfl) | (go_simp; done))); simp only [Act.put, List.setIfInBounds_toArray, List.set_cons_zero, List.set_cons_succ]) | (apply can1; (· rfl); (· rfl); (· (first | (go_simp; with_reducible rfl) | (go_simp; done))); simp only [Act.put, List.setIfInBounds_toArray, List.set_cons_zero, List.set_cons_succ]) | (apply canN; (· rfl); (· rfl); simp only [Act.put, List.setIfInBounds_toArray, List.set_cons_zero, List.set_cons_succ]) | (apply canN1; (· rfl); (· rfl); simp only [Act.put, List.setIfInBounds_toArray, List.set_cons_zero, List.set_cons_succ]) | (apply can0; (· rfl); (· (go_simp; done)); (· (intro w'; first | (go_simp; with_reducible rfl) | (go_simp; done))); simp only [Act.put, List.setIfInBounds_toArray, List.set_cons_zero, List.set_cons_succ]) | (apply can1; (· rfl); (· (go_simp; done)); (· (first | (go_simp; with_reducible rfl) | (go_simp; done))); simp only [Act.put, List.setIfInBounds_toArray, List.set_cons_zero, List.set_cons_succ]) | (apply canN; (· rfl); (· (go_simp; done)); simp only [Act.put, List.setIfInBounds_toArray, List.set_cons_zero, List.set_cons_succ]) | (apply canN1; (· rfl); (· (go_simp; done)); simp only [Act.put, List.setIfInBounds_toArray, List.set_cons_zero, List.set_cons_succ])))
      refine canE ?_
      go_wp2
      go_meet
      exact ⟨rfl, rfl⟩
    · have hfol := HF.out.resolve_left hs0
      have hs1 : 0 < s.length := List.length_pos_iff.2 hs0
      obtain ⟨g, cap2, hcc, _, _, hcell, _⟩ := dec_open HD.out hs0
      rw [hc0] at hcc
      cases hcc
      have hce := hcell 0 hs1
      rw [headD_get] at hce
      generalize s.headD 0 = s0 at *
      clear hcell hs0 HD ho hb
      have HFO := Lib.hid hfol
      clear hfol
      refine wp_one [3, 10, 12, 17] [19] [] [0, 1, 2, 3, 4, 5, 6, 7, 8, 9, 10, 11, 12, 13, 14, 15, 16, 17, 18, 19, 20, 21] rfl (by kernel_rfl) (fun _ _ _ _ _ h => h) ?_; simp only [List.map_cons, List.map_nil, List.getElem?_toArray, List.getElem?_cons_zero, List.getElem?_cons_succ]
      (repeat (first | (apply can0; (· rfl); (· rfl); (· (intro w'; first | (go_simp; with_reducible rfl) | (go_simp; done))); simp only [Act.put, List.setIfInBounds_toArray, List.set_cons_zero, List.set_cons_succ]) | (apply can1; (· rfl); (· rfl); (· (first | (go_simp; with_reducible rfl) | (go_simp; done))); simp only [Act.put, List.setIfInBounds_toArray, List.set_cons_zero, List.set_cons_succ]) | (apply canN; (· rfl); (· rfl); simp only [Act.put, List.setIfInBounds_toArray, List.set_cons_zero, List.set_cons_succ]) | (apply canN1; (· rfl); (· rfl); simp only [Act.put, List.setIfInBounds_toArray, List.set_cons_zero, List.set_cons_succ]) | (apply can0; (· rfl); (· (go_simp; done)); (· (intro w'; first | (go_simp; with_reducible rfl) | (go_simp; done))); simp only [Act.put, List.setIfInBounds_toArray, List.set_cons_zero, List.set_cons_succ]) | (apply can1; (· rfl); (· (go_simp; done)); (· (first | (go_simp; with_reducible rfl) | (go_simp; done))); simp only [Act.put, List.setIfInBounds_toArray, List.set_cons_zero, List.set_cons_succ]) | (apply canN; (· rfl); (· (go_simp; done)); simp only [Act.put, List.setIfInBounds_toArray, List.set_cons_zero, List.set_cons_succ]) | (apply canN1; (· rfl); (· (go_simp; done)); simp only [Act.put, List.setIfInBounds_toArray, List.set_cons_zero, List.set_cons_succ])))
      refine canW rfl [] rfl (fun K hK => ?_)
      go_simp
      go_at_call 26
      refine (follows_any _ _ _ _).mono ?_
      rintro e w2 ⟨rfl, rfl⟩
      rw [HFO.out]
      (refine hK _ _ (fun u hu => by cases hu) ?_; clear hK K; try simp only [Act.put, List.setIfInBounds_toArray, List.set_cons_zero, List.set_cons_succ])
      (repeat (first | (apply can0; (· rfl); (· rfl); (· (intro w'; first | (go_simp; with_reducible rfl) | (go_simp; done))); simp only [Act.put, List.setIfInBounds_toArray, List.set_cons_zero, List.set_cons_succ]) | (apply can1; (· rfl); (· rfl); (· (first | (go_simp; with_reducible rfl) | (go_simp; done))); simp only [Act.put, List.setIfInBounds_toArray, List.set_cons_zero, List.set_cons_succ]) | (apply canN; (· rfl); (· rfl); simp only [Act.put, List.setIfInBounds_toArray, List.set_cons_zero, List.set_cons_succ]) | (apply canN1; (· rfl); (· rfl); simp only [Act.put, List.setIfInBounds_toArray, List.set_cons_zero, List.set_cons_succ]) | (apply can0; (· rfl); (· (go_simp; done)); (· (intro w'; first | (go_simp; with_reducible rfl) | (go_simp; done))); simp only [Act.put, List.setIfInBounds_toArray, List.set_cons_zero, List.set_cons_succ]) | (apply can1; (· rfl); (· (go_simp; done)); (· (first | (go_simp; with_reducible rfl) | (go_simp; done))); simp only [Act.put, List.setIfInBounds_toArray, List.set_cons_zero, List.set_cons_succ]) | (apply canN; (· rfl); (· (go_simp; done)); simp only [Act.put, List.setIfInBounds_toArray, List.set_cons_zero, List.set_cons_succ]) | (apply canN1; (· rfl); (· (go_simp; done)); simp only [Act.put, List.setIfInBounds_toArray, List.set_cons_zero, List.set_cons_succ])))
      refine canE ?_
      go_wp2
      go_meet
      exact ⟨rfl, rfl⟩
  case rest =>
    obtain ⟨rfl, rfl⟩ := hcut
    have hbd : Blk w.drew b 43 #[.slice ao s.length cap] := hb
    have hod : Own w.drew 5 1 (.slice ao s.length cap) s.length (bytesV s) := ho.drew
    have hcd : w.drew.cell? ⟨b, 0, none⟩ = some (.slice ao s.length cap) := hc0
    have hchd := Lib.hid (Chg.drew (Chg.refl w nob))
    clear ho hb hc0 hf0 hnone hsome HD HF
    generalize w.drew = wd at *
    go_wp2_with (at_builtin; refine wpList_push rfl (.tmp 40) (.tmp 42) 22 rfl 5 (.int .u8 0) 1 1 i_byte u_bytes rfl (by decide) _ _ _ rfl hod 1 1 rfl rfl rfl (by unfold maxLen; omega) (by omega) ?_)
    intro v1 w1 ho1 (hch1 : Chg wd w1 (blkOf (.slice ao s.length cap))) (hfo1 : ∀ k, blkOf v1 k → blkOf (.slice ao s.length cap) k ∨ wd.heap.size ≤ k)
    have hb1 := hbd.kept hch1 hne
    obtain ⟨a1, cap1, rfl, _⟩ := ho1.form
    have hc1' : w1.cell? ⟨b, 0, none⟩ = some (.slice ao s.length cap) := by rw [hb1.cell]; rfl
    have hf1 : w1.frozen? ⟨b, 0, none⟩ = false := hb1.free 0
    go_upto_region 5 with (fail)
    have hne1 := ho1.ne hb1 (by decide)
    have hD2 : Dec (w1.setCell ⟨b, 0, none⟩ (.slice a1 (s.length + 1) cap1)) b (s ++ [c]) (fun k => k = b ∨ blkOf (.slice a1 (s.length + 1) cap1) k) := by
      refine ⟨_, hb1.set 0 _, ?_, rfl, by simp; omega, fun x hx => ?_⟩
      · rw [List.length_append]
        exact Own.setOther (p := ⟨b, 0, none⟩) (by simpa [bytesV] using ho1) hne1 _
      · rcases List.mem_append.1 hx with h | h
        · exact HX.out x h
        · rw [List.mem_singleton] at h; subst h; exact ⟨hc1, hc2⟩
    have hc2' : Chg w (w1.setCell ⟨b, 0, none⟩ (.slice a1 (s.length + 1) cap1)) (fun k => k = b ∨ blkOf (.slice ao s.length cap) k) :=
      ((hchd.out.mono (fun _ _ h => h.elim)).trans hch1 (fun i _ h => .inr h)).setCell (.inl (.inl rfl)) _
    have hF2 : ∀ k, blkOf (.slice a1 (s.length + 1) cap1) k → blkOf (.slice ao s.length cap) k ∨ w.heap.size ≤ k := fun k hk => (hfo1 k hk).imp id (fun h => Nat.le_trans hchd.out.size h)
    generalize w1.setCell ⟨b, 0, none⟩ (.slice a1 (s.length + 1) cap1) = w2 at *
    have hlt : (s ++ [c]).length = s.length + 1 := by simp
    obtain ⟨t, ht⟩ : ∃ t, s ++ [c] = t := ⟨_, rfl⟩
    have htf : takeF s c = (if lenB (t.headD 0) = 0 then ([], [65533]) else if lenB (t.headD 0) = t.length then ([], [signR t]) else (t, [])) := by unfold takeF; rw [ht]
    rw [ht] at hD2 hlt
    have htn : t ≠ [] := by rw [← ht]; simp
    obtain ⟨g2, cap2, hcb, hcap2, hmax2, hcell2, hx2⟩ := dec_open hD2 htn
    have hb2 : ∃ v, Blk w2 b 43 #[v] := by obtain ⟨v, hb2, _⟩ := hD2; exact ⟨v, hb2⟩
    obtain ⟨v2, hb2⟩ := hb2
    have hf2 : w2.frozen? ⟨b, 0, none⟩ = false := hb2.free 0
    have hce := hcell2 0 (by omega)
    rw [headD_get] at hce
    have HT := Lib.hid htf
    have HD2 := Lib.hid hD2
    have HC2 := Lib.hid hc2'
    have HB2 := Lib.hid hb2
    have hl4 : t.length ≤ 4 := by omega
    have hl1 : 0 < t.length := by omega
    have hsz2 := Lib.hid hc2'.size
    clear htf hD2 hc2' hcell2 hx2 hb2 hc1' hf1 hb1 ho1 hch1 hfo1 hbd hod hcd hne hne1 ht hlt htn
    generalize t.headD 0 = f0 at *
    have hle := lenB_le f0
    obtain ⟨q, hq⟩ : ∃ q, lenB f0 = q := ⟨_, rfl⟩
    rw [hq] at hle
    have HQ := Lib.hid hq
    clear hq
    by_cases h0 : q = 0
    · subst h0
      go_wp2_with (go_at_call 27; refine (length_any _ _).mono ?_; rintro e w3 ⟨rfl, rfl⟩; rw [HQ.out])
      go_ret
      rw [HT.out, if_pos HQ.out]
      refine ⟨_, rfl, Own.lit' w3 _ (by simp) 21 #[.int .i32 65533] (by decide), (HC2.out.setCell (.inl (.inl rfl)) _).alloc _, ⟨fun k => k = b ∨ blkOf (.slice none 0 0) k, ⟨.slice none 0 0, (HB2.out.set 0 _).alloc _, World.ownsRow_nil _ _ _ _, rfl, by simp, by simp⟩, fun k hk => ?_⟩, fun k hk => ?_⟩
      · rcases hk with h | h
        · exact .inl (.inl h)
        · cases h
      · cases hk; simpa using hsz2.out
    · have hq0 : (q == 0) = false := by simpa using h0
      by_cases h1 : q = t.length
      · have hq1 : (q == (t.length : Int)) = true := by simpa using h1
        go_wp2_with (first
          | (go_at_call 27; refine (length_any _ _).mono ?_; rintro e w3 ⟨rfl, rfl⟩; rw [HQ.out])
          | (go_at_call 28; refine (sign_any _ b _ t HD2.out (by intro h; rw [h] at hl1; simp at hl1)).mono ?_; rintro e w3 ⟨rfl, rfl⟩))
        go_ret
        rw [HT.out, if_neg (by rw [HQ.out]; exact h0), if_pos (by rw [HQ.out]; exact h1)]
        refine ⟨_, rfl, Own.lit' w3 _ (by simp) 21 #[.int .i32 (signR t)] (by simp), (HC2.out.setCell (.inl (.inl rfl)) _).alloc _, ⟨fun k => k = b ∨ blkOf (.slice none 0 0) k, ⟨.slice none 0 0, (HB2.out.set 0 _).alloc _, World.ownsRow_nil _ _ _ _, rfl, by simp, by simp⟩, fun k hk => ?_⟩, fun k hk => ?_⟩
        · rcases hk with h | h
          · exact .inl (.inl h)
          · cases h
        · cases hk; simpa using hsz2.out
      · have hq1 : (q == (t.length : Int)) = false := by simpa using h1
        go_wp2_with (first
          | (go_at_call 27; refine (length_any _ _).mono ?_; rintro e w3 ⟨rfl, rfl⟩; rw [HQ.out]))
        go_ret
        rw [HT.out, if_neg (by rw [HQ.out]; exact h0), if_neg (by rw [HQ.out]; exact h1)]
        refine ⟨_, rfl, World.ownsRow_nil _ _ _ _, HC2.out, ⟨_, HD2.out, fun k hk => ?_⟩, fun k hk => by cases hk⟩
        rcases hk with h | h
        · exact .inl (.inl h)
        · exact (hF2 k h).imp .inr id
theorem Dec.kept {w w' : World} {b : Nat} {s : List Int} {F G : Nat → Prop} (h : Dec w b s F) (hc : Chg w w' G) (hG : ∀ k, F k → ¬ G k) : Dec w' b s F := by
  obtain ⟨v, hb, ho, rfl, hl⟩ := h
  exact ⟨v, hb.kept hc (hG _ (.inl rfl)), ho.kept hc (fun k hk => hG k (.inr hk)), rfl, hl⟩
set_option maxHeartbeats 4000000 in
theorem take_any (w : World) (b : Nat) (F : Nat → Prop) (s : List Int) (c : Int) (h : Dec w b s F) (hs : s.length ≤ 3) (hc : 0 ≤ c ∧ c ≤ 255) :
    Calls Try.prog 21 #[.pointer (some ⟨b, 0, none⟩), .int .u8 c] w fun e w' =>
      ∃ v, e = .returned v ∧ Own w' 21 1 v (takeD s c).2.length (runesV (takeD s c).2) ∧ Chg w w' F ∧ (∃ F', Dec w' b (takeD s c).1 F' ∧ ∀ k, F' k → F k ∨ w.heap.size ≤ k) ∧ ∀ k, blkOf v k → w.heap.size ≤ k := by
  by_cases hq : s ≠ [] ∧ folB (s.headD 0) c s.length = false
  · have hT : takeD s c = ((takeF [] c).1, 65533 :: (takeF [] c).2) := by unfold takeD; rw [if_pos hq]
    have hlen : (takeF [] c).2.length ≤ 1 := by unfold takeF; (repeat' split) <;> simp
    obtain ⟨⟨s', o⟩, hso⟩ : ∃ p, takeF [] c = p := ⟨_, rfl⟩
    rw [hso] at hT hlen
    rw [hT]
    have HSO := Lib.hid hso
    clear hso
    obtain ⟨hs0, hfol⟩ := hq
    have h' := h
    obtain ⟨v, hb, ho, rfl, hl, hx⟩ := h'
    obtain ⟨ao, cap, rfl, hcap, hmax, hnone, hsome⟩ := ho.form
    have hc0 : w.cell? ⟨b, 0, none⟩ = some (.slice ao s.length cap) := by rw [hb.cell]; rfl
    have hf0 : w.frozen? ⟨b, 0, none⟩ = false := hb.free 0
    have hs1 : 0 < s.length := List.length_pos_iff.2 hs0
    obtain ⟨g, cap2, hcc, _, _, hcell, _⟩ := dec_open h hs0
    rw [hc0] at hcc
    cases hcc
    have hce := hcell 0 hs1
    rw [headD_get] at hce
    generalize s.headD 0 = s0 at *
    have HFO := Lib.hid hfol
    have HB := Lib.hid hb
    clear hfol hcell hs0 h ho hx hnone hsome hb hT
    go_enter Try.func21, Try.ntmps21
    go_upto_region 1 with (fail)
    refine wp_one [3, 10, 12, 17] [19] [] [0, 1, 2, 3, 4, 5, 6, 7, 8, 9, 10, 11, 12, 13, 14, 15, 16, 17, 18, 19, 20, 21] rfl (by kernel_rfl) (fun _ _ _ _ _ h => h) ?_; simp only [List.map_cons, List.map_nil, List.getElem?_toArray, List.getElem?_cons_zero, List.getElem?_cons_succ]
    (repeat (first | (apply can0; (· rfl); (· rfl); (· (intro w'; first | (go_simp; with_reducible rfl) | (go_simp; done))); simp only [Act.put, List.setIfInBounds_toArray, List.set_cons_zero, List.set_cons_succ]) | (apply can1; (· rfl); (· rfl); (· (first | (go_simp; with_reducible rfl) | (go_simp; done))); simp only [Act.put, List.setIfInBounds_toArray, List.set_cons_zero, List.set_cons_succ]) | (apply canN; (· rfl); (· rfl); simp only [Act.put, List.setIfInBounds_toArray, List.set_cons_zero, List.set_cons_succ]) | (apply canN1; (· rfl); (· rfl); simp only [Act.put, List.setIfInBounds_toArray, List.set_cons_zero, List.set_cons_succ]) | (apply can0; (· rfl); (· (go_simp; done)); (· (intro w'; first | (go_simp; with_reducible rfl) | (go_simp; done))); simp only [Act.put, List.setIfInBounds_toArray, List.set_cons_zero, List.set_cons_succ]) | (apply can1; (· rfl); (· (go_simp; done)); (· (first | (go_simp; with_reducible rfl) | (go_simp; done))); simp only [Act.put, List.setIfInBounds_toArray, List.set_cons_zero, List.set_cons_succ]) | (apply canN; (· rfl); (· (go_simp; done)); simp only [Act.put, List.setIfInBounds_toArray, List.set_cons_zero, List.set_cons_succ]) | (apply canN1; (· rfl); (· (go_simp; done)); simp only [Act.put, List.setIfInBounds_toArray, List.set_cons_zero, List.set_cons_succ])))
    refine canW rfl [] rfl (fun K hK => ?_)
    go_simp
    go_at_call 26
    refine (follows_any _ _ _ _).mono ?_
    rintro e w2 ⟨rfl, rfl⟩
    rw [HFO.out]
    (refine hK _ _ (fun u hu => by cases hu) ?_; clear hK K; try simp only [Act.put, List.setIfInBounds_toArray, List.set_cons_zero, List.set_cons_succ])
    (repeat (first | (apply can0; (· rfl); (· rfl); (· (intro w'; first | (go_simp; with_reducible rfl) | (go_simp; done))); simp only [Act.put, List.setIfInBounds_toArray, List.set_cons_zero, List.set_cons_succ]) | (apply can1; (· rfl); (· rfl); (· (first | (go_simp; with_reducible rfl) | (go_simp; done))); simp only [Act.put, List.setIfInBounds_toArray, List.set_cons_zero, List.set_cons_succ]) | (apply canN; (· rfl); (· rfl); simp only [Act.put, List.setIfInBounds_toArray, List.set_cons_zero, List.set_cons_succ]) | (apply canN1; (· rfl); (· rfl); simp only [Act.put, List.setIfInBounds_toArray, List.set_cons_zero, List.set_cons_succ]) | (apply can0; (· rfl); (· (go_simp; done)); (· (intro w'; first | (go_simp; with_reducible rfl) | (go_simp; done))); simp only [Act.put, List.setIfInBounds_toArray, List.set_cons_zero, List.set_cons_succ]) | (apply can1; (· rfl); (· (go_simp; done)); (· (first | (go_simp; with_reducible rfl) | (go_simp; done))); simp only [Act.put, List.setIfInBounds_toArray, List.set_cons_zero, List.set_cons_succ]) | (apply canN; (· rfl); (· (go_simp; done)); simp only [Act.put, List.setIfInBounds_toArray, List.set_cons_zero, List.set_cons_succ]) | (apply canN1; (· rfl); (· (go_simp; done)); simp only [Act.put, List.setIfInBounds_toArray, List.set_cons_zero, List.set_cons_succ])))
    refine canE ?_
    have hbd : Blk w.drew b 43 #[.slice (some ⟨g, 0, none⟩) s.length cap] := HB.out
    have hfd : w.drew.frozen? ⟨b, 0, none⟩ = false := hf0
    have hcd : w.drew.cell? ⟨b, 0, none⟩ = some (.slice (some ⟨g, 0, none⟩) s.length cap) := hc0
    have hchd := Lib.hid (Chg.drew (Chg.refl w nob))
    clear hf0 hc0 hce
    generalize w.drew = wd at *
    go_upto_region 3 with (fail)
    have hb3 : Blk ((wd.setCell ⟨b, 0, none⟩ (.slice none 0 0)).alloc (.cells #[.int .i32 65533] 21)) b 43 #[.slice none 0 0] := (hbd.set 0 _).alloc _
    have hD3 : Dec ((wd.setCell ⟨b, 0, none⟩ (.slice none 0 0)).alloc (.cells #[.int .i32 65533] 21)) b [] (fun k => k = b ∨ blkOf (.slice none 0 0) k) := ⟨_, hb3, World.ownsRow_nil _ _ _ _, rfl, by simp, by simp⟩
    have hL3 := Own.lit' wd (wd.setCell ⟨b, 0, none⟩ (.slice none 0 0)) (by simp) 21 #[.int .i32 65533] (by decide)
    have hC3 : Chg w ((wd.setCell ⟨b, 0, none⟩ (.slice none 0 0)).alloc (.cells #[.int .i32 65533] 21)) (fun k => k = b ∨ blkOf (.slice (some ⟨g, 0, none⟩) s.length cap) k) :=
      ((hchd.out.mono (fun _ _ h => h.elim)).setCell (.inl (.inl rfl)) _).alloc _
    have hsz : w.heap.size ≤ wd.heap.size := hchd.out.size
    have HD3 := Lib.hid hD3
    have HL3 := Lib.hid hL3
    have HC3 := Lib.hid hC3
    have HSZ := Lib.hid hsz
    have HB3 := Lib.hid hb3
    clear hb3 hD3 hL3 hC3 hsz
    go_wp2_with fail
    go_at_call 21
    refine (takeF_any _ b _ [] c HD3.out (by simp) (.inl rfl) hc).mono ?_
    rw [HSO.out]
    rintro e w4 ⟨v4, rfl, ho4, hch4, ⟨F4, hD4, hF4⟩, hfo4⟩
    have hL4 : Own w4 21 1 (.slice (some ⟨wd.heap.size, 0, none⟩) 1 1) 1 [.int .i32 65533] := HL3.out.kept hch4 (fun k hk hf => by
      rcases hf with rfl | hf
      · exact HL3.out.ne HB3.out (by decide) hk
      · cases hf)
    have hsz3 : (((wd.setCell ⟨b, 0, none⟩ (.slice none 0 0)).alloc (.cells #[.int .i32 65533] 21)).heap.size) = wd.heap.size + 1 := by simp
    rw [hsz3] at hfo4 hF4
    simp only at ho4 hD4 hlen
    have hch4' : Chg w w4 (fun k => k = b ∨ blkOf (.slice (some ⟨g, 0, none⟩) s.length cap) k) := HC3.out.trans hch4 (fun i hi h => by
      rcases h with h | h
      · exact .inl h
      · cases h)
    have hsz4 : wd.heap.size + 1 ≤ w4.heap.size := by rw [← hsz3]; exact hch4.size
    have hDk : ∀ w5, Chg w4 w5 (blkOf (.slice (some ⟨wd.heap.size, 0, none⟩) 1 1)) → Dec w5 b s' F4 := fun w5 hc => hD4.kept hc (fun k hk hf => by
      rcases hF4 k hk with (h | h) | h
      · subst h; exact HL3.out.ne HB3.out (by decide) hf
      · cases h
      · cases hf; exact absurd h (Nat.not_succ_le_self _))
    obtain ⟨a4, c4, rfl, _, _, hn4, _⟩ := ho4.form
    have hr4 := ho4.rd
    have HR4 := Lib.hid hr4
    have HDK := Lib.hid hDk
    have HC4 := Lib.hid hch4'
    have HF4 := Lib.hid hF4
    have HN4 := Lib.hid hn4
    have HZ4 := Lib.hid hsz4
    clear hr4 hDk hch4' hch4 hF4 hfo4 hD4 HD3 HC3 HL3 HB3 hn4 ho4 hsz3 hsz4
    have HCD := Lib.hid hcd
    clear hcd hbd hfd
    have hnews : Hid (∀ a, a4 = some a → ∀ j u, (runesV o)[j]? = some u → w4.cell? (a.add j) = some u) := fun a ha j u hu => by
      obtain ⟨b', o', h1, h2⟩ := HR4.out.cell hu
      rw [ha] at h1
      cases h1
      rw [Addr.add_lit]; exact h2
    have hone : Hid (∀ u ∈ runesV o, u.oneCell' = true) := fun u hu => by obtain ⟨x, _, rfl⟩ := List.mem_map.1 hu; rfl
    go_wp2_with (at_builtin; refine wpList_app rfl (.tmp 31) (.tmp 34) 31 rfl 21 (.int .i32 0) 1 4 i_rune u_runes rfl (by decide) _ 1 _ rfl hL4 a4 o.length c4 (runesV o) rfl HN4.out (by simp [runesV]) hnews.out hone.out (by unfold maxLen; omega) (by omega) ?_)
    intro v5 w5 ho5 (hch5 : Chg w4 w5 (blkOf (.slice (some ⟨wd.heap.size, 0, none⟩) 1 1))) (hfo5 : ∀ k, blkOf v5 k → blkOf (.slice (some ⟨wd.heap.size, 0, none⟩) 1 1) k ∨ w4.heap.size ≤ k)
    go_wp2
    go_ret
    refine ⟨v5, rfl, ?_, HC4.out.trans hch5 (fun i hi h => by cases h; exact absurd hi (Nat.not_lt.2 HSZ.out)), ⟨F4, HDK.out _ hch5, fun k hk => ?_⟩, fun k hk => ?_⟩
    · rw [Nat.add_comm]; exact ho5
    · rcases HF4.out k hk with (h | h) | h
      · exact .inl (.inl h)
      · cases h
      · have := HSZ.out; exact .inr (by omega)
    · rcases hfo5 k hk with h | h
      · cases h; exact HSZ.out
      · have := HSZ.out; have := HZ4.out; omega
  · have hT : takeD s c = takeF s c := by unfold takeD; rw [if_neg hq]
    rw [hT]
    refine takeF_any w b F s c h hs ?_ hc
    by_cases h0 : s = []
    · exact .inl h0
    · exact .inr (by cases hx : folB (s.headD 0) c s.length with | true => rfl | false => exact absurd ⟨h0, hx⟩ hq)
end Go.Proofs.Ytfcgjnmbbgioiaa
