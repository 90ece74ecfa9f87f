/-
  Package tabs: what each call does to the list of its columns' stops.
-/
import Derived.Test.YtadpjgjkicmhiaaK
import Derived.Test.YtadpjgjkicmhiaaC
namespace Go.Proofs.Ytadpjgjkicmhiaa
open Go.RowKit
set_option linter.unusedVariables false
set_option linter.unusedSimpArgs false
attribute [local go_sem ↓] run_min_two run_max_two

theorem u_bools : Try.prog.underlying 42 = some (.slice 4) := by kernel_rfl
theorem i_bool : (Try.prog.info? 4).map (fun i => (i.zero, i.size, i.bytes)) = some (some (.bool false), 1, 1) := by kernel_rfl

def Stops (w : World) (b : Nat) (l : List Bool) (F : Nat → Prop) : Prop :=
  ∃ v, Blk w b 48 #[v] ∧ Own w 4 1 v l.length (l.map Value.bool) ∧ F = (fun k => k = b ∨ blkOf v k) ∧ l.length ≤ 200

/-- The object is another one behind the call, and of what was there only it has changed. -/
def Upd (R : World → (Nat → Prop) → Prop) (F : Nat → Prop) (w w' : World) : Prop := Chg w w' F ∧ ∃ F', R w' F' ∧ ∀ k, F' k → F k ∨ w.heap.size ≤ k

def eighth (i : Nat) : Bool := decide (0 < i) && decide (i % 8 = 0)
/-- The columns i to k - 1, new. -/
def fresh (i k : Nat) : List Bool := (List.range' i (k - i)).map eighth
def resized (l : List Bool) (k : Nat) : List Bool := l.take k ++ fresh l.length k

theorem eighth_pos {j : Nat} (h : 0 < j) : eighth j = ((j : Int) % 8 == 0) := by
  unfold eighth; rw [Bool.eq_iff_iff]; simp [h]; omega
theorem fresh_snoc {i k : Nat} (h : i ≤ k) : fresh i (k + 1) = fresh i k ++ [eighth k] := by
  unfold fresh
  rw [show k + 1 - i = (k - i) + 1 by omega, List.range'_concat]
  simp [show i + (k - i) = k by omega]

theorem resized_self {l : List Bool} : resized l l.length = l := by simp [resized, fresh]
theorem resized_cut {l : List Bool} {k : Nat} (h : k < l.length) : resized l k = l.take k := by
  unfold resized fresh; rw [show k - l.length = 0 by omega]; simp
theorem length_resized (l : List Bool) (k : Nat) : (resized l k).length = k := by
  unfold resized fresh; simp; omega
theorem resized_grow {l : List Bool} {k : Nat} (h : l.length ≤ k) : resized l k = l ++ fresh l.length k := by
  unfold resized; rw [List.take_of_length_le h]

/-- A shorter piece of a row is a row. -/
theorem Own.cut {w : World} {e : TypeId} {ao : Option Addr} {n cap k : Nat} {xs : List Value} (h : Own w e 1 (.slice ao n cap) n xs) (hk : k ≤ n) : Own w e 1 (.slice ao k cap) k (xs.take k) := by
  have hx : xs.length = n := by simpa using h.1
  refine ⟨by simp [hx]; omega, ?_⟩
  rcases h.2 with ⟨hv, hn⟩ | ⟨g, c, cur, hv, hg, hh, h1, h2, h3, h4⟩
  · cases hv
    exact .inl ⟨by rw [show k = 0 by omega], by omega⟩
  · cases hv
    refine .inr ⟨g, cap, cur, rfl, hg, hh, by omega, h2, h3, ?_⟩
    rw [← h4, List.take_take]; simp; omega

set_option maxHeartbeats 4000000 in
theorem resize_any (w : World) (b : Nat) (l : List Bool) (F : Nat → Prop) (c : Int) (h : Stops w b l F) (h1 : 1 ≤ c) (h2 : c ≤ 200) :
    Calls Try.prog 15 #[.pointer (some ⟨b, 0, none⟩), .int .i64 c] w fun e w' =>
      e = .returned (.int .i64 0) ∧ Upd (fun w F => Stops w b (resized l c.toNat) F) F w w' := by
  obtain ⟨v, hb, ho, rfl, hl⟩ := h
  obtain ⟨ao, cap, rfl, hcap, hmax, hnone, hsome⟩ := ho.form
  obtain ⟨k, rfl⟩ := Int.eq_ofNat_of_zero_le (show 0 ≤ c by omega)
  have hc0 : w.cell? ⟨b, 0, none⟩ = some (.slice ao l.length cap) := by rw [hb.cell]; rfl
  have hf0 : w.frozen? ⟨b, 0, none⟩ = false := hb.free 0
  have hne := ho.ne hb (by decide)
  rw [Int.toNat_natCast]
  rcases Nat.lt_or_ge k l.length with hk | hk
  · have hkc : k ≤ cap := by omega
    have hmn : mnI (l.length : Int) (k : Int) = (k : Int) := mnI_ge (by omega)
    clear hnone hsome
    go_enter Try.func15, Try.ntmps15
    go_wp2
    refine wp_one [4, 8] [15] [] [0, 1, 2, 3, 4, 5, 6, 7, 8, 9, 10, 11, 12, 13, 14, 15] rfl (by kernel_rfl) (fun _ _ _ _ _ h => h) ?_; simp only [List.map_cons, List.map_nil, List.getElem?_toArray, List.getElem?_cons_zero, List.getElem?_cons_succ]
    (repeat (first | (apply can0; (· rfl); (· rfl); (· (intro w'; first | (go_simp; with_reducible rfl) | (go_simp; done))); simp only [Act.put, List.setIfInBounds_toArray, List.set_cons_zero, List.set_cons_succ]) | (apply can1; (· rfl); (· rfl); (· (first | (go_simp; with_reducible rfl) | (go_simp; done))); simp only [Act.put, List.setIfInBounds_toArray, List.set_cons_zero, List.set_cons_succ]) | (apply canN; (· rfl); (· rfl); simp only [Act.put, List.setIfInBounds_toArray, List.set_cons_zero, List.set_cons_succ]) | (apply canN1; (· rfl); (· rfl); simp only [Act.put, List.setIfInBounds_toArray, List.set_cons_zero, List.set_cons_succ]) | (apply can0; (· rfl); (· (go_simp; done)); (· (intro w'; first | (go_simp; with_reducible rfl) | (go_simp; done))); simp only [Act.put, List.setIfInBounds_toArray, List.set_cons_zero, List.set_cons_succ]) | (apply can1; (· rfl); (· (go_simp; done)); (· (first | (go_simp; with_reducible rfl) | (go_simp; done))); simp only [Act.put, List.setIfInBounds_toArray, List.set_cons_zero, List.set_cons_succ]) | (apply canN; (· rfl); (· (go_simp; done)); simp only [Act.put, List.setIfInBounds_toArray, List.set_cons_zero, List.set_cons_succ]) | (apply canN1; (· rfl); (· (go_simp; done)); simp only [Act.put, List.setIfInBounds_toArray, List.set_cons_zero, List.set_cons_succ])))
    refine canW rfl [] rfl (fun K hK => ?_)
    go_simp
    (refine hK _ _ (fun u hu => by cases hu) ?_; clear hK K; try simp only [Act.put, List.setIfInBounds_toArray, List.set_cons_zero, List.set_cons_succ])
    refine canE ?_
    go_wp2
    refine wp_loop_rounds 1 ?_
    rw [rounds_succ]
    go_wp2
    go_ret
    have hkl : (resized l k).length = k := length_resized l k
    refine ⟨rfl, ((Chg.refl w _).setCell (.inl (.inl rfl)) _).drew, fun x => x = b ∨ blkOf (.slice ao k cap) x, ⟨.slice ao k cap, hb.set 0 _, ?_, rfl, by omega⟩, fun x hx => .inl (hx.imp id blk_same)⟩
    rw [hkl, resized_cut hk, List.map_take]
    exact ((ho.cut (Nat.le_of_lt hk)).setOther (p := ⟨b, 0, none⟩) (fun h => hne (blk_same h)) _).drew
  · have hk2 : ¬ k < l.length := by omega
    have hmn : mnI (l.length : Int) (k : Int) = (l.length : Int) := mnI_le (by omega)
    clear hnone hsome
    go_enter Try.func15, Try.ntmps15
    go_wp2
    refine wp_one [4, 8] [15] [] [0, 1, 2, 3, 4, 5, 6, 7, 8, 9, 10, 11, 12, 13, 14, 15] rfl (by kernel_rfl) (fun _ _ _ _ _ h => h) ?_; simp only [List.map_cons, List.map_nil, List.getElem?_toArray, List.getElem?_cons_zero, List.getElem?_cons_succ]
    (repeat (first | (apply can0; (· rfl); (· rfl); (· (intro w'; first | (go_simp; with_reducible rfl) | (go_simp; done))); simp only [Act.put, List.setIfInBounds_toArray, List.set_cons_zero, List.set_cons_succ]) | (apply can1; (· rfl); (· rfl); (· (first | (go_simp; with_reducible rfl) | (go_simp; done))); simp only [Act.put, List.setIfInBounds_toArray, List.set_cons_zero, List.set_cons_succ]) | (apply canN; (· rfl); (· rfl); simp only [Act.put, List.setIfInBounds_toArray, List.set_cons_zero, List.set_cons_succ]) | (apply canN1; (· rfl); (· rfl); simp only [Act.put, List.setIfInBounds_toArray, List.set_cons_zero, List.set_cons_succ]) | (apply can0; (· rfl); (· (go_simp; done)); (· (intro w'; first | (go_simp; with_reducible rfl) | (go_simp; done))); simp only [Act.put, List.setIfInBounds_toArray, List.set_cons_zero, List.set_cons_succ]) | (apply can1; (· rfl); (· (go_simp; done)); (· (first | (go_simp; with_reducible rfl) | (go_simp; done))); simp only [Act.put, List.setIfInBounds_toArray, List.set_cons_zero, List.set_cons_succ]) | (apply canN; (· rfl); (· (go_simp; done)); simp only [Act.put, List.setIfInBounds_toArray, List.set_cons_zero, List.set_cons_succ]) | (apply canN1; (· rfl); (· (go_simp; done)); simp only [Act.put, List.setIfInBounds_toArray, List.set_cons_zero, List.set_cons_succ])))
    refine canW rfl [] rfl (fun K hK => ?_)
    go_simp
    (refine hK _ _ (fun u hu => by cases hu) ?_; clear hK K; try simp only [Act.put, List.setIfInBounds_toArray, List.set_cons_zero, List.set_cons_succ])
    refine canE ?_
    go_wp2
    go_loopw [5] (fun i wr => ∃ j : Nat, l.length ≤ j ∧ j ≤ k ∧ i = .int .i64 j ∧ ∃ v, Blk wr b 48 #[v] ∧ Own wr 4 1 v j ((l ++ fresh l.length j).map Value.bool) ∧
        Chg w wr (fun k => k = b ∨ blkOf (Value.slice ao l.length cap) k) ∧ ∀ x, blkOf v x → blkOf (Value.slice ao l.length cap) x ∨ w.heap.size ≤ x)
      (fun i _ => k - (intOf i).toNat)
    case atStart =>
      refine ⟨l.length, Nat.le_refl _, hk, rfl, .slice ao l.length cap, hb.set 0 _, ?_, ((Chg.refl w _).setCell (.inl (.inl rfl)) _).drew, fun x hx => .inl hx⟩
      rw [show fresh l.length l.length = [] by simp [fresh], List.append_nil]
      exact (ho.setOther (p := ⟨b, 0, none⟩) hne _).drew
    case round =>
      obtain ⟨j, hlj, hjk, rfl, v, hbr, hor, hch, hfo⟩ := hrel
      obtain ⟨aj, cj, rfl, hcj, hmj, hnj, hsj⟩ := hor.form
      have hcb : wr.cell? ⟨b, 0, none⟩ = some (.slice aj j cj) := by rw [hbr.cell]; rfl
      have hfb : wr.frozen? ⟨b, 0, none⟩ = false := hbr.free 0
      have hner := hor.ne hbr (by decide)
      by_cases hjk2 : j < k
      · by_cases hj0 : 0 < j
        · go_wp2_with (at_builtin; refine wpList_push rfl (.tmp 41) (.tmp 49) 42 rfl 4 (.bool false) 1 1 i_bool u_bools rfl (by decide) _ j _ rfl hor 1 1 rfl rfl rfl (by unfold maxLen; omega) (by omega) ?_)
          intro v' w1 hor1 hch1 hfo1
          have hb1 := hbr.kept hch1 hner
          have hc1 : w1.cell? ⟨b, 0, none⟩ = some (.slice aj j cj) := by rw [hb1.cell]; rfl
          have hf1 : w1.frozen? ⟨b, 0, none⟩ = false := hb1.free 0
          obtain ⟨av, cv, rfl, _⟩ := hor1.form
          go_wp2
          go_roundw
          case rel =>
            have hne1 := hor1.ne hb1 (by decide)
            refine ⟨j + 1, by omega, by omega, by go_num, .slice av (j + 1) cv, hb1.set 0 _, ?_, (hch.trans hch1 (fun i hi h => .inr ((hfo i h).resolve_right (by omega)))).setCell (.inl (.inl rfl)) _, fun x hx => ?_⟩
            · refine Own.setOther ?_ (p := ⟨b, 0, none⟩) hne1 _
              rw [fresh_snoc hlj, eighth_pos hj0]
              simpa using hor1
            · rcases hfo1 x hx with h | h
              · exact hfo x h
              · exact .inr (Nat.le_trans hch.size h)
          case measure => simp [intOf]; omega
        · obtain rfl : j = 0 := by omega
          go_wp2_with (at_builtin; refine wpList_push rfl (.tmp 41) (.tmp 49) 42 rfl 4 (.bool false) 1 1 i_bool u_bools rfl (by decide) _ 0 _ rfl hor 1 1 rfl rfl rfl (by unfold maxLen; omega) (by omega) ?_)
          intro v' w1 hor1 hch1 hfo1
          have hb1 := hbr.kept hch1 hner
          have hc1 : w1.cell? ⟨b, 0, none⟩ = some (.slice aj 0 cj) := by rw [hb1.cell]; rfl
          have hf1 : w1.frozen? ⟨b, 0, none⟩ = false := hb1.free 0
          obtain ⟨av, cv, rfl, _⟩ := hor1.form
          go_wp2
          go_roundw
          case rel =>
            have hne1 := hor1.ne hb1 (by decide)
            refine ⟨1, by omega, by omega, by go_num, .slice av (0 + 1) cv, hb1.set 0 _, ?_, (hch.trans hch1 (fun i hi h => .inr ((hfo i h).resolve_right (by omega)))).setCell (.inl (.inl rfl)) _, fun x hx => ?_⟩
            · refine Own.setOther ?_ (p := ⟨b, 0, none⟩) hne1 _
              rw [show (1 : Nat) = 0 + 1 from rfl, fresh_snoc hlj, show eighth 0 = false from rfl]
              simpa using hor1
            · rcases hfo1 x hx with h | h
              · exact hfo x h
              · exact .inr (Nat.le_trans hch.size h)
          case measure => simp [intOf]; omega
      · obtain rfl : j = k := by omega
        go_wp2
        go_ret
        have hkl : (resized l j).length = j := length_resized l j
        refine ⟨rfl, hch, fun x => x = b ∨ blkOf (.slice aj j cj) x, ⟨.slice aj j cj, hbr, ?_, rfl, by omega⟩, fun x hx => ?_⟩
        · rw [hkl, resized_grow hlj]; exact hor
        · rcases hx with hx | hx
          · exact .inl (.inl hx)
          · exact (hfo x hx).imp .inr id
end Go.Proofs.Ytadpjgjkicmhiaa
