/-
  Chapter 10, the document's answer: its object, as a list of the columns' stops.
-/
import Derived.Test.YtadpjgjkicmhiaaTabs6
namespace Go.Proofs.Ytadpjgjkicmhiaa
open Go.RowKit
set_option linter.unusedVariables false
set_option linter.unusedSimpArgs false
attribute [local go_sem ↓] run_min_two run_max_two

def RStops (w : World) (b : Nat) (l : List Bool) (F : Nat → Prop) : Prop :=
  ∃ v, Blk w b 44 #[v] ∧ Own w 4 1 v l.length (l.map Value.bool) ∧ F = (fun k => k = b ∨ blkOf v k) ∧ l.length ≤ 200

set_option maxHeartbeats 1000000 in
theorem turn_in (w : World) (b : Nat) (l : List Bool) (F : Nat → Prop) (k : Nat) (x : Bool) (h : RStops w b l F) (h1 : k < l.length) :
    Calls Try.prog 17 #[.pointer (some ⟨b, 0, none⟩), .int .i64 k, .bool x] w fun e w' =>
      e = .returned (.bool true) ∧ Upd (fun w F => RStops w b (l.set k x) F) F w w' := by
  obtain ⟨v, hb, ho, rfl, hl⟩ := h
  obtain ⟨ao, cap, rfl, hcap, hmax, hnone, hsome⟩ := ho.form
  cases ao with
  | none => have := (hnone rfl).1; omega
  | some a =>
    obtain ⟨g, rfl⟩ := hsome a rfl
    have hc0 : w.cell? ⟨b, 0, none⟩ = some (.slice (some ⟨g, 0, none⟩) l.length cap) := by rw [hb.cell]; rfl
    have hg := mapCell ho h1
    have hf := ho.frozenAt k
    have hne := ho.ne hb (by decide)
    clear hnone hsome
    go_enter Try.func17, Try.ntmps17
    go_wp2
    go_ret
    refine ⟨rfl, (Chg.refl w _).setCell (.inl (.inr rfl)) _, fun y => y = b ∨ blkOf (.slice (some ⟨g, 0, none⟩) l.length cap) y, ⟨_, hb.other (p := ⟨g, k, none⟩) (fun h => hne (by rw [h]; rfl)) _, ?_, rfl, by simpa using hl⟩, fun y hy => .inl hy⟩
    rw [List.length_set]
    exact mapSet ho k x

set_option maxHeartbeats 1000000 in
theorem turn_out (w : World) (b : Nat) (l : List Bool) (F : Nat → Prop) (c : Int) (x : Bool) (h : RStops w b l F) (h1 : c < 0 ∨ l.length ≤ c) :
    Calls Try.prog 17 #[.pointer (some ⟨b, 0, none⟩), .int .i64 c, .bool x] w fun e w' =>
      e = .returned (.bool false) ∧ w' = w := by
  obtain ⟨v, hb, ho, rfl, hl⟩ := h
  obtain ⟨ao, cap, rfl, hcap, hmax, hnone, hsome⟩ := ho.form
  have hc0 : w.cell? ⟨b, 0, none⟩ = some (.slice ao l.length cap) := by rw [hb.cell]; rfl
  clear hnone hsome
  rcases h1 with h1 | h1
  · go_enter Try.func17, Try.ntmps17
    go_wp2
    go_ret
    exact ⟨rfl, rfl⟩
  · have h2 : ¬ c < 0 := by omega
    go_enter Try.func17, Try.ntmps17
    go_wp2
    go_ret
    exact ⟨rfl, rfl⟩

theorem eighth_tmod {j : Nat} (h : 0 < j) : eighth j = ((j : Int).tmod 8 == 0) := by
  rw [eighth_pos h, Int.tmod_eq_emod_of_nonneg (by omega)]
theorem alloc_drew (w : World) (o : Obj) : (w.alloc o).drew = w.drew.alloc o := rfl

set_option maxHeartbeats 4000000 in
theorem grow_any (w : World) (b : Nat) (l : List Bool) (F : Nat → Prop) (k : Nat) (h : RStops w b l F) (h2 : k ≤ 200) (h3 : l.length ≤ k) :
    Calls Try.prog 25 #[.pointer (some ⟨b, 0, none⟩), .int .i64 k] w fun e w' =>
      e = .returned (.tuple #[]) ∧ Upd (fun w F => RStops w b (l ++ fresh l.length k) F) F w w' := by
  obtain ⟨v, hb, ho, rfl, hl⟩ := h
  go_enter Try.func25, Try.ntmps25
  go_wp2
  go_loopw [] (fun wr => ∃ j : Nat, l.length ≤ j ∧ j ≤ k ∧ ∃ u, Blk wr b 44 #[u] ∧ Own wr 4 1 u j ((l ++ fresh l.length j).map Value.bool) ∧
      Chg w wr (fun k => k = b ∨ blkOf v k) ∧ ∀ x, blkOf u x → blkOf v x ∨ w.heap.size ≤ x)
    (fun wr => match wr.cell? ⟨b, 0, none⟩ with | some (.slice _ n _) => k - n | _ => 0)
  case atStart =>
    refine ⟨l.length, Nat.le_refl _, h3, v, hb, ?_, Chg.refl w _, fun x hx => .inl hx⟩
    rw [show fresh l.length l.length = [] by simp [fresh], List.append_nil]
    exact ho
  case round =>
    obtain ⟨j, hlj, hjk, u, hbr, hor, hch, hfo⟩ := hrel
    obtain ⟨aj, cj, rfl, hcj, hmj, hnj, hsj⟩ := hor.form
    have hcb : wr.cell? ⟨b, 0, none⟩ = some (.slice aj j cj) := by rw [hbr.cell]; rfl
    have hfb : wr.frozen? ⟨b, 0, none⟩ = false := hbr.free 0
    have hner := hor.ne hbr (by decide)
    by_cases hjk2 : j < k
    · have hjn : (j : Int) < (k : Int) := by omega
      by_cases hj0 : 0 < j
      · have hj1 : (0 : Int) < (j : Int) := by omega
        go_wp2
        refine wp_one [4, 8, 15] [20, 21, 24] [(20, [4])] [0, 1, 2, 3, 4, 5, 6, 7, 8, 9, 10, 11, 12, 13, 14, 15, 16, 17, 18, 19, 20, 21, 22, 23, 24] rfl (by kernel_rfl) (fun _ _ _ _ _ h => h) ?_; simp only [List.map_cons, List.map_nil, List.getElem?_toArray, List.getElem?_cons_zero, List.getElem?_cons_succ]
        (repeat (first | (apply can0; (· rfl); (· rfl); (· (intro w'; first | (go_simp; with_reducible rfl) | (go_simp; done))); simp only [Act.put, List.setIfInBounds_toArray, List.set_cons_zero, List.set_cons_succ]) | (apply can1; (· rfl); (· rfl); (· (first | (go_simp; with_reducible rfl) | (go_simp; done))); simp only [Act.put, List.setIfInBounds_toArray, List.set_cons_zero, List.set_cons_succ]) | (apply canN; (· rfl); (· rfl); simp only [Act.put, List.setIfInBounds_toArray, List.set_cons_zero, List.set_cons_succ]) | (apply canN1; (· rfl); (· rfl); simp only [Act.put, List.setIfInBounds_toArray, List.set_cons_zero, List.set_cons_succ]) | (apply can0; (· rfl); (· (go_simp; done)); (· (intro w'; first | (go_simp; with_reducible rfl) | (go_simp; done))); simp only [Act.put, List.setIfInBounds_toArray, List.set_cons_zero, List.set_cons_succ]) | (apply can1; (· rfl); (· (go_simp; done)); (· (first | (go_simp; with_reducible rfl) | (go_simp; done))); simp only [Act.put, List.setIfInBounds_toArray, List.set_cons_zero, List.set_cons_succ]) | (apply canN; (· rfl); (· (go_simp; done)); simp only [Act.put, List.setIfInBounds_toArray, List.set_cons_zero, List.set_cons_succ]) | (apply canN1; (· rfl); (· (go_simp; done)); simp only [Act.put, List.setIfInBounds_toArray, List.set_cons_zero, List.set_cons_succ])))
        refine canW rfl [4] rfl (fun K hK => ?_)
        go_simp
        have hca : (wr.alloc (.cells #[.bool ((j : Int).tmod 8 == 0)] 4)).cell? ⟨b, 0, none⟩ = some (.slice aj j cj) := ((Chg.refl wr nob).alloc _).cell hcb id
        (refine hK _ _ (fun u hu => by simp only [List.mem_cons, List.not_mem_nil, or_false] at hu; (first | (subst hu; exact reRun_mk rfl (by first | (go_simp; with_reducible rfl) | (go_simp; done)) (holds_at rfl)) | (rcases hu with rfl | rfl <;> exact reRun_mk rfl (by first | (go_simp; with_reducible rfl) | (go_simp; done)) (holds_at rfl)) | (rcases hu with rfl | rfl | rfl <;> exact reRun_mk rfl (by first | (go_simp; with_reducible rfl) | (go_simp; done)) (holds_at rfl)))) ?_; clear hK K; try simp only [Act.put, List.setIfInBounds_toArray, List.set_cons_zero, List.set_cons_succ])
        clear hca
        (repeat (first | (apply can0; (· rfl); (· rfl); (· (intro w'; first | (go_simp; with_reducible rfl) | (go_simp; done))); simp only [Act.put, List.setIfInBounds_toArray, List.set_cons_zero, List.set_cons_succ]) | (apply can1; (· rfl); (· rfl); (· (first | (go_simp; with_reducible rfl) | (go_simp; done))); simp only [Act.put, List.setIfInBounds_toArray, List.set_cons_zero, List.set_cons_succ]) | (apply canN; (· rfl); (· rfl); simp only [Act.put, List.setIfInBounds_toArray, List.set_cons_zero, List.set_cons_succ]) | (apply canN1; (· rfl); (· rfl); simp only [Act.put, List.setIfInBounds_toArray, List.set_cons_zero, List.set_cons_succ]) | (apply can0; (· rfl); (· (go_simp; done)); (· (intro w'; first | (go_simp; with_reducible rfl) | (go_simp; done))); simp only [Act.put, List.setIfInBounds_toArray, List.set_cons_zero, List.set_cons_succ]) | (apply can1; (· rfl); (· (go_simp; done)); (· (first | (go_simp; with_reducible rfl) | (go_simp; done))); simp only [Act.put, List.setIfInBounds_toArray, List.set_cons_zero, List.set_cons_succ]) | (apply canN; (· rfl); (· (go_simp; done)); simp only [Act.put, List.setIfInBounds_toArray, List.set_cons_zero, List.set_cons_succ]) | (apply canN1; (· rfl); (· (go_simp; done)); simp only [Act.put, List.setIfInBounds_toArray, List.set_cons_zero, List.set_cons_succ])))
        refine canW rfl [] rfl (fun K hK => ?_)
        rw [alloc_drew]
        refine step_push rfl (.tmp 15) (.tmp 31) 42 rfl 4 (.bool false) 1 1 i_bool u_bools rfl (by decide) _ j _ rfl hor.drew 1 1 rfl rfl rfl (by unfold maxLen; omega) (by omega) ?_
        intro v' w1 hor1 (hch1 : Chg wr.drew w1 (blkOf (.slice aj j cj))) (hfo1 : ∀ k, blkOf v' k → blkOf (.slice aj j cj) k ∨ wr.heap.size ≤ k)
        have hb1 := Blk.kept (w := wr.drew) hbr hch1 hner
        have hc1 : w1.cell? ⟨b, 0, none⟩ = some (.slice aj j cj) := by rw [hb1.cell]; rfl
        have hf1 : w1.frozen? ⟨b, 0, none⟩ = false := hb1.free 0
        obtain ⟨av, cv, rfl, _⟩ := hor1.form
        (refine hK _ _ (fun u hu => by cases hu) ?_; clear hK K; try simp only [Act.put, List.setIfInBounds_toArray, List.set_cons_zero, List.set_cons_succ])
        (repeat (first | (apply can0; (· rfl); (· rfl); (· (intro w'; first | (go_simp; with_reducible rfl) | (go_simp; done))); simp only [Act.put, List.setIfInBounds_toArray, List.set_cons_zero, List.set_cons_succ]) | (apply can1; (· rfl); (· rfl); (· (first | (go_simp; with_reducible rfl) | (go_simp; done))); simp only [Act.put, List.setIfInBounds_toArray, List.set_cons_zero, List.set_cons_succ]) | (apply canN; (· rfl); (· rfl); simp only [Act.put, List.setIfInBounds_toArray, List.set_cons_zero, List.set_cons_succ]) | (apply canN1; (· rfl); (· rfl); simp only [Act.put, List.setIfInBounds_toArray, List.set_cons_zero, List.set_cons_succ]) | (apply can0; (· rfl); (· (go_simp; done)); (· (intro w'; first | (go_simp; with_reducible rfl) | (go_simp; done))); simp only [Act.put, List.setIfInBounds_toArray, List.set_cons_zero, List.set_cons_succ]) | (apply can1; (· rfl); (· (go_simp; done)); (· (first | (go_simp; with_reducible rfl) | (go_simp; done))); simp only [Act.put, List.setIfInBounds_toArray, List.set_cons_zero, List.set_cons_succ]) | (apply canN; (· rfl); (· (go_simp; done)); simp only [Act.put, List.setIfInBounds_toArray, List.set_cons_zero, List.set_cons_succ]) | (apply canN1; (· rfl); (· (go_simp; done)); simp only [Act.put, List.setIfInBounds_toArray, List.set_cons_zero, List.set_cons_succ])))
        refine canW rfl [] rfl (fun K hK => ?_)
        go_simp
        (refine hK _ _ (fun u hu => by cases hu) ?_; clear hK K; try simp only [Act.put, List.setIfInBounds_toArray, List.set_cons_zero, List.set_cons_succ])
        refine canE ?_
        go_wp2
        go_roundw
        case rel =>
          have hne1 := hor1.ne hb1 (by decide)
          refine ⟨j + 1, by omega, by omega, .slice av (j + 1) cv, hb1.set 0 _, ?_, (hch.drew.trans hch1 (fun i hi h => .inr ((hfo i h).resolve_right (by omega)))).setCell (.inl (.inl rfl)) _, fun x hx => ?_⟩
          · refine Own.setOther ?_ (p := ⟨b, 0, none⟩) hne1 _
            rw [fresh_snoc hlj, eighth_tmod hj0]
            simpa using hor1
          · rcases hfo1 x hx with h | h
            · exact hfo x h
            · exact .inr (Nat.le_trans hch.size h)
        case measure =>
          rw [hcb, (hb1.set 0 _).cell]
          simp
          omega
      · obtain rfl : j = 0 := by omega
        go_wp2
        refine wp_one [4, 8, 15] [20, 21, 24] [(20, [4])] [0, 1, 2, 3, 4, 5, 6, 7, 8, 9, 10, 11, 12, 13, 14, 15, 16, 17, 18, 19, 20, 21, 22, 23, 24] rfl (by kernel_rfl) (fun _ _ _ _ _ h => h) ?_; simp only [List.map_cons, List.map_nil, List.getElem?_toArray, List.getElem?_cons_zero, List.getElem?_cons_succ]
        (repeat (first | (apply can0; (· rfl); (· rfl); (· (intro w'; first | (go_simp; with_reducible rfl) | (go_simp; done))); simp only [Act.put, List.setIfInBounds_toArray, List.set_cons_zero, List.set_cons_succ]) | (apply can1; (· rfl); (· rfl); (· (first | (go_simp; with_reducible rfl) | (go_simp; done))); simp only [Act.put, List.setIfInBounds_toArray, List.set_cons_zero, List.set_cons_succ]) | (apply canN; (· rfl); (· rfl); simp only [Act.put, List.setIfInBounds_toArray, List.set_cons_zero, List.set_cons_succ]) | (apply canN1; (· rfl); (· rfl); simp only [Act.put, List.setIfInBounds_toArray, List.set_cons_zero, List.set_cons_succ]) | (apply can0; (· rfl); (· (go_simp; done)); (· (intro w'; first | (go_simp; with_reducible rfl) | (go_simp; done))); simp only [Act.put, List.setIfInBounds_toArray, List.set_cons_zero, List.set_cons_succ]) | (apply can1; (· rfl); (· (go_simp; done)); (· (first | (go_simp; with_reducible rfl) | (go_simp; done))); simp only [Act.put, List.setIfInBounds_toArray, List.set_cons_zero, List.set_cons_succ]) | (apply canN; (· rfl); (· (go_simp; done)); simp only [Act.put, List.setIfInBounds_toArray, List.set_cons_zero, List.set_cons_succ]) | (apply canN1; (· rfl); (· (go_simp; done)); simp only [Act.put, List.setIfInBounds_toArray, List.set_cons_zero, List.set_cons_succ])))
        refine canW rfl [4] rfl (fun K hK => ?_)
        go_simp
        have hca : (wr.alloc (.cells #[.bool false] 4)).cell? ⟨b, 0, none⟩ = some (.slice aj 0 cj) := ((Chg.refl wr nob).alloc _).cell hcb id
        (refine hK _ _ (fun u hu => by simp only [List.mem_cons, List.not_mem_nil, or_false] at hu; (first | (subst hu; exact reRun_mk rfl (by first | (go_simp; with_reducible rfl) | (go_simp; done)) (holds_at rfl)) | (rcases hu with rfl | rfl <;> exact reRun_mk rfl (by first | (go_simp; with_reducible rfl) | (go_simp; done)) (holds_at rfl)) | (rcases hu with rfl | rfl | rfl <;> exact reRun_mk rfl (by first | (go_simp; with_reducible rfl) | (go_simp; done)) (holds_at rfl)))) ?_; clear hK K; try simp only [Act.put, List.setIfInBounds_toArray, List.set_cons_zero, List.set_cons_succ])
        clear hca
        (repeat (first | (apply can0; (· rfl); (· rfl); (· (intro w'; first | (go_simp; with_reducible rfl) | (go_simp; done))); simp only [Act.put, List.setIfInBounds_toArray, List.set_cons_zero, List.set_cons_succ]) | (apply can1; (· rfl); (· rfl); (· (first | (go_simp; with_reducible rfl) | (go_simp; done))); simp only [Act.put, List.setIfInBounds_toArray, List.set_cons_zero, List.set_cons_succ]) | (apply canN; (· rfl); (· rfl); simp only [Act.put, List.setIfInBounds_toArray, List.set_cons_zero, List.set_cons_succ]) | (apply canN1; (· rfl); (· rfl); simp only [Act.put, List.setIfInBounds_toArray, List.set_cons_zero, List.set_cons_succ]) | (apply can0; (· rfl); (· (go_simp; done)); (· (intro w'; first | (go_simp; with_reducible rfl) | (go_simp; done))); simp only [Act.put, List.setIfInBounds_toArray, List.set_cons_zero, List.set_cons_succ]) | (apply can1; (· rfl); (· (go_simp; done)); (· (first | (go_simp; with_reducible rfl) | (go_simp; done))); simp only [Act.put, List.setIfInBounds_toArray, List.set_cons_zero, List.set_cons_succ]) | (apply canN; (· rfl); (· (go_simp; done)); simp only [Act.put, List.setIfInBounds_toArray, List.set_cons_zero, List.set_cons_succ]) | (apply canN1; (· rfl); (· (go_simp; done)); simp only [Act.put, List.setIfInBounds_toArray, List.set_cons_zero, List.set_cons_succ])))
        refine canW rfl [] rfl (fun K hK => ?_)
        rw [alloc_drew]
        refine step_push rfl (.tmp 15) (.tmp 31) 42 rfl 4 (.bool false) 1 1 i_bool u_bools rfl (by decide) _ 0 _ rfl hor.drew 1 1 rfl rfl rfl (by unfold maxLen; omega) (by omega) ?_
        intro v' w1 hor1 (hch1 : Chg wr.drew w1 (blkOf (.slice aj 0 cj))) (hfo1 : ∀ k, blkOf v' k → blkOf (.slice aj 0 cj) k ∨ wr.heap.size ≤ k)
        have hb1 := Blk.kept (w := wr.drew) hbr hch1 hner
        have hc1 : w1.cell? ⟨b, 0, none⟩ = some (.slice aj 0 cj) := by rw [hb1.cell]; rfl
        have hf1 : w1.frozen? ⟨b, 0, none⟩ = false := hb1.free 0
        obtain ⟨av, cv, rfl, _⟩ := hor1.form
        (refine hK _ _ (fun u hu => by cases hu) ?_; clear hK K; try simp only [Act.put, List.setIfInBounds_toArray, List.set_cons_zero, List.set_cons_succ])
        (repeat (first | (apply can0; (· rfl); (· rfl); (· (intro w'; first | (go_simp; with_reducible rfl) | (go_simp; done))); simp only [Act.put, List.setIfInBounds_toArray, List.set_cons_zero, List.set_cons_succ]) | (apply can1; (· rfl); (· rfl); (· (first | (go_simp; with_reducible rfl) | (go_simp; done))); simp only [Act.put, List.setIfInBounds_toArray, List.set_cons_zero, List.set_cons_succ]) | (apply canN; (· rfl); (· rfl); simp only [Act.put, List.setIfInBounds_toArray, List.set_cons_zero, List.set_cons_succ]) | (apply canN1; (· rfl); (· rfl); simp only [Act.put, List.setIfInBounds_toArray, List.set_cons_zero, List.set_cons_succ]) | (apply can0; (· rfl); (· (go_simp; done)); (· (intro w'; first | (go_simp; with_reducible rfl) | (go_simp; done))); simp only [Act.put, List.setIfInBounds_toArray, List.set_cons_zero, List.set_cons_succ]) | (apply can1; (· rfl); (· (go_simp; done)); (· (first | (go_simp; with_reducible rfl) | (go_simp; done))); simp only [Act.put, List.setIfInBounds_toArray, List.set_cons_zero, List.set_cons_succ]) | (apply canN; (· rfl); (· (go_simp; done)); simp only [Act.put, List.setIfInBounds_toArray, List.set_cons_zero, List.set_cons_succ]) | (apply canN1; (· rfl); (· (go_simp; done)); simp only [Act.put, List.setIfInBounds_toArray, List.set_cons_zero, List.set_cons_succ])))
        refine canW rfl [] rfl (fun K hK => ?_)
        go_simp
        (refine hK _ _ (fun u hu => by cases hu) ?_; clear hK K; try simp only [Act.put, List.setIfInBounds_toArray, List.set_cons_zero, List.set_cons_succ])
        refine canE ?_
        go_wp2
        go_roundw
        case rel =>
          have hne1 := hor1.ne hb1 (by decide)
          refine ⟨0 + 1, by omega, by omega, .slice av (0 + 1) cv, hb1.set 0 _, ?_, (hch.drew.trans hch1 (fun i hi h => .inr ((hfo i h).resolve_right (by omega)))).setCell (.inl (.inl rfl)) _, fun x hx => ?_⟩
          · refine Own.setOther ?_ (p := ⟨b, 0, none⟩) hne1 _
            rw [fresh_snoc hlj, show eighth 0 = false from rfl]
            simpa using hor1
          · rcases hfo1 x hx with h | h
            · exact hfo x h
            · exact .inr (Nat.le_trans hch.size h)
        case measure =>
          rw [hcb, (hb1.set 0 _).cell]
          simp
          omega
    · obtain rfl : j = k := by omega
      go_wp2
      go_end0
      refine ⟨rfl, hch, fun x => x = b ∨ blkOf (.slice aj j cj) x, ⟨.slice aj j cj, hbr, ?_, rfl, ?_⟩, fun x hx => ?_⟩
      · rw [List.length_append, show l.length + (fresh l.length j).length = j by unfold fresh; simp; omega]; exact hor
      · unfold fresh; simp; omega
      · rcases hx with hx | hx
        · exact .inl (.inl hx)
        · exact (hfo x hx).imp .inr id
end Go.Proofs.Ytadpjgjkicmhiaa
