/-
  Package tabs: the other calls.
-/
import Derived.Test.YtadpjgjkicmhiaaTabs
namespace Go.Proofs.Ytadpjgjkicmhiaa
open Go.RowKit
set_option linter.unusedVariables false
set_option linter.unusedSimpArgs false
attribute [local go_sem ↓] run_min_two run_max_two

theorem mapCell {w : World} {e : TypeId} {l : List Bool} {g n cap : Nat} (h : Own w e 1 (.slice (some ⟨g, 0, none⟩) n cap) n (l.map Value.bool)) {j : Nat} (hj : j < l.length) : w.cell? ⟨g, j, none⟩ = some (.bool (l.getD j false)) := by
  have hx : l.length = n := by simpa using h.1
  rw [h.cellAt j (by omega)]
  simp [List.getD, hj]
theorem mapSet {w : World} {e : TypeId} {l : List Bool} {g n cap : Nat} (h : Own w e 1 (.slice (some ⟨g, 0, none⟩) n cap) n (l.map Value.bool)) (j : Nat) (x : Bool) :
    Own (w.setCell ⟨g, j, none⟩ (.bool x)) e 1 (.slice (some ⟨g, 0, none⟩) n cap) n ((l.set j x).map Value.bool) := by
  rw [List.map_set]; exact (h.stored j (.bool x)).1

set_option maxHeartbeats 1000000 in
theorem lays_in (w : World) (b : Nat) (l : List Bool) (F : Nat → Prop) (k : Nat) (x : Bool) (h : Stops w b l F) (h1 : k < l.length) :
    Calls Try.prog 23 #[.pointer (some ⟨b, 0, none⟩), .int .i64 k, .bool x] w fun e w' =>
      e = .returned (.bool true) ∧ Upd (fun w F => Stops w b (l.set k x) F) F w w' := by
  obtain ⟨v, hb, ho, rfl, hl⟩ := h
  obtain ⟨ao, cap, rfl, hcap, hmax, hnone, hsome⟩ := ho.form
  cases ao with
  | none => have := (hnone rfl).1; omega
  | some a =>
    obtain ⟨g, rfl⟩ := hsome a rfl
    have hc0 : w.cell? ⟨b, 0, none⟩ = some (.slice (some ⟨g, 0, none⟩) l.length cap) := by rw [hb.cell]; rfl
    have hg := mapCell ho h1
    have hf := ho.frozenAt k
    have hne := ho.ne hb (by decide)
    clear hnone hsome
    go_enter Try.func23, Try.ntmps23
    go_wp2
    go_ret
    refine ⟨rfl, (Chg.refl w _).setCell (.inl (.inr rfl)) _, fun y => y = b ∨ blkOf (.slice (some ⟨g, 0, none⟩) l.length cap) y, ⟨_, hb.other (p := ⟨g, k, none⟩) (fun h => hne (by rw [h]; rfl)) _, ?_, rfl, by simpa using hl⟩, fun y hy => .inl hy⟩
    rw [List.length_set]
    exact mapSet ho k x

set_option maxHeartbeats 1000000 in
theorem lays_out (w : World) (b : Nat) (l : List Bool) (F : Nat → Prop) (c : Int) (x : Bool) (h : Stops w b l F) (h1 : c < 0 ∨ l.length ≤ c) :
    Calls Try.prog 23 #[.pointer (some ⟨b, 0, none⟩), .int .i64 c, .bool x] w fun e w' =>
      e = .returned (.bool false) ∧ w' = w := by
  obtain ⟨v, hb, ho, rfl, hl⟩ := h
  obtain ⟨ao, cap, rfl, hcap, hmax, hnone, hsome⟩ := ho.form
  have hc0 : w.cell? ⟨b, 0, none⟩ = some (.slice ao l.length cap) := by rw [hb.cell]; rfl
  clear hnone hsome
  rcases h1 with h1 | h1
  · go_enter Try.func23, Try.ntmps23
    go_wp2
    go_ret
    exact ⟨rfl, rfl⟩
  · have h2 : ¬ c < 0 := by omega
    go_enter Try.func23, Try.ntmps23
    go_wp2
    go_ret
    exact ⟨rfl, rfl⟩

set_option maxHeartbeats 1000000 in
theorem set_in (w : World) (b : Nat) (l : List Bool) (F : Nat → Prop) (k : Nat) (h : Stops w b l F) (h1 : k < l.length) :
    Calls Try.prog 9 #[.pointer (some ⟨b, 0, none⟩), .int .i64 k] w fun e w' =>
      e = .returned (.bool true) ∧ Upd (fun w F => Stops w b (l.set k true) F) F w w' := by
  go_enter Try.func9, Try.ntmps9
  go_wp2_with (go_at_call 23; refine (lays_in _ b l F k _ h h1).mono ?_; rintro e w' ⟨rfl, hu⟩)
  go_ret
  exact ⟨rfl, hu⟩
set_option maxHeartbeats 1000000 in
theorem set_out (w : World) (b : Nat) (l : List Bool) (F : Nat → Prop) (c : Int) (h : Stops w b l F) (h1 : c < 0 ∨ l.length ≤ c) :
    Calls Try.prog 9 #[.pointer (some ⟨b, 0, none⟩), .int .i64 c] w fun e w' =>
      e = .returned (.bool false) ∧ w' = w := by
  go_enter Try.func9, Try.ntmps9
  go_wp2_with (go_at_call 23; refine (lays_out _ b l F c _ h h1).mono ?_; rintro e w' ⟨rfl, rfl⟩)
  go_ret
  exact ⟨rfl, rfl⟩
set_option maxHeartbeats 1000000 in
theorem clr_in (w : World) (b : Nat) (l : List Bool) (F : Nat → Prop) (k : Nat) (h : Stops w b l F) (h1 : k < l.length) :
    Calls Try.prog 14 #[.pointer (some ⟨b, 0, none⟩), .int .i64 k] w fun e w' =>
      e = .returned (.bool true) ∧ Upd (fun w F => Stops w b (l.set k false) F) F w w' := by
  go_enter Try.func14, Try.ntmps14
  go_wp2_with (go_at_call 23; refine (lays_in _ b l F k _ h h1).mono ?_; rintro e w' ⟨rfl, hu⟩)
  go_ret
  exact ⟨rfl, hu⟩
set_option maxHeartbeats 1000000 in
theorem clr_out (w : World) (b : Nat) (l : List Bool) (F : Nat → Prop) (c : Int) (h : Stops w b l F) (h1 : c < 0 ∨ l.length ≤ c) :
    Calls Try.prog 14 #[.pointer (some ⟨b, 0, none⟩), .int .i64 c] w fun e w' =>
      e = .returned (.bool false) ∧ w' = w := by
  go_enter Try.func14, Try.ntmps14
  go_wp2_with (go_at_call 23; refine (lays_out _ b l F c _ h h1).mono ?_; rintro e w' ⟨rfl, rfl⟩)
  go_ret
  exact ⟨rfl, rfl⟩

/-- The columns of the stops. -/
def stopsFrom : Nat → List Bool → List Nat
  | _, [] => []
  | i, x :: r => if x then i :: stopsFrom (i + 1) r else stopsFrom (i + 1) r
def stopsOf (l : List Bool) : List Nat := stopsFrom 0 l
def intsV (l : List Nat) : List Value := l.map fun (n : Nat) => Value.int .i64 (n : Int)

theorem stopsFrom_snoc (x : Bool) : ∀ (l : List Bool) (i : Nat), stopsFrom i (l ++ [x]) = stopsFrom i l ++ if x then [i + l.length] else []
  | [], i => by cases x <;> simp [stopsFrom]
  | y :: r, i => by
    simp only [List.cons_append, stopsFrom, stopsFrom_snoc x r (i + 1), List.length_cons, show i + 1 + r.length = i + (r.length + 1) by omega]
    cases y <;> simp
theorem stopsOf_take {l : List Bool} {k : Nat} (h : k < l.length) : stopsOf (l.take (k + 1)) = stopsOf (l.take k) ++ if l.getD k false then [k] else [] := by
  rw [List.take_succ_eq_append_getElem h, stopsOf, stopsFrom_snoc]
  simp [stopsOf, List.getD, h, Nat.min_eq_left (Nat.le_of_lt h)]
theorem stopsFrom_le : ∀ (l : List Bool) (i : Nat), (stopsFrom i l).length ≤ l.length
  | [], _ => by simp [stopsFrom]
  | x :: r, i => by have := stopsFrom_le r (i + 1); cases x <;> simp [stopsFrom] <;> omega

theorem u_ints : Try.prog.underlying 22 = some (.slice 3) := by kernel_rfl
theorem i_int : (Try.prog.info? 3).map (fun i => (i.zero, i.size, i.bytes)) = some (some (.int .i64 0), 1, 8) := by kernel_rfl

set_option maxHeartbeats 4000000 in
theorem list_any (w : World) (b : Nat) (l : List Bool) (F : Nat → Prop) (h : Stops w b l F) :
    Calls Try.prog 12 #[.pointer (some ⟨b, 0, none⟩)] w fun e w' =>
      ∃ v, e = .returned v ∧ Own w' 3 1 v (stopsOf l).length (intsV (stopsOf l)) ∧ Chg w w' nob ∧ ∀ k, blkOf v k → w.heap.size ≤ k := by
  obtain ⟨v, hb, ho, rfl, hl⟩ := h
  obtain ⟨ao, cap, rfl, hcap, hmax, hnone, hsome⟩ := ho.form
  have hc0 : w.cell? ⟨b, 0, none⟩ = some (.slice ao l.length cap) := by rw [hb.cell]; rfl
  have hcell : ∀ wr, Chg w wr nob → ∀ k, k < l.length → ∃ g, ao = some ⟨g, 0, none⟩ ∧ wr.cell? ⟨g, k, none⟩ = some (.bool (l.getD k false)) := by
    intro wr hch k hk
    cases ao with
    | none => have := (hnone rfl).1; omega
    | some a =>
      obtain ⟨g, rfl⟩ := hsome a rfl
      exact ⟨g, rfl, hch.cell (mapCell ho hk) id⟩
  have HC := Lib.hid hcell
  clear hnone hsome hcell
  go_enter Try.func12, Try.ntmps12
  go_wp2
  go_loopw [3, 11] (fun v i wr => ∃ k : Nat, k ≤ l.length ∧ i = .int .i64 k ∧ Own wr 3 1 v (stopsOf (l.take k)).length (intsV (stopsOf (l.take k))) ∧ Chg w wr nob ∧ ∀ x, blkOf v x → w.heap.size ≤ x)
    (fun _ i _ => l.length - (intOf i).toNat)
  case atStart => exact ⟨0, Nat.zero_le _, rfl, by simpa [stopsOf, stopsFrom, intsV] using World.ownsRow_nil w 0 3 1, Chg.refl _ _, fun x hx => by cases hx⟩
  case round =>
    obtain ⟨k, hk, rfl, hor, hch, hfo⟩ := hrel
    by_cases hkl : k < l.length
    · obtain ⟨g, rfl, hcx⟩ := HC.out wr hch k hkl
      have hle := stopsFrom_le (l.take k) 0
      have hle2 : (stopsOf (l.take k)).length ≤ 200 := by unfold stopsOf; simp at hle; omega
      have hst := stopsOf_take hkl
      cases hx : l.getD k false with
      | true =>
        rw [hx] at hcx hst
        have HS := Lib.hid hst
        clear hst hx hle
        go_wp2_with (at_builtin; refine wpList_push rfl (.tmp 17) (.tmp 19) 22 rfl 3 (.int .i64 0) 1 8 i_int u_ints rfl (by decide) _ _ _ rfl hor 1 1 rfl rfl rfl (by unfold maxLen; omega) (by omega) ?_)
        intro v' w1 hor1 hch1 hfo1
        go_wp2
        go_roundw
        case rel =>
          refine ⟨k + 1, by omega, by go_num, ?_, hch.trans hch1 (fun i hi h => by have := hfo i h; omega), fun x hx => ?_⟩
          · rw [HS.out]; simpa [intsV] using hor1
          · rcases hfo1 x hx with h | h
            · exact hfo x h
            · exact Nat.le_trans hch.size h
        case measure => simp [intOf]; omega
      | false =>
        rw [hx] at hcx hst
        have HS := Lib.hid hst
        clear hst hx hle
        go_wp2
        go_roundw
        case rel => exact ⟨k + 1, by omega, by go_num, by rw [HS.out]; simpa using hor, hch, hfo⟩
        case measure => simp [intOf]; omega
    · obtain rfl : k = l.length := by omega
      go_wp2
      go_ret
      rw [List.take_length] at hor
      exact ⟨_, rfl, hor, hch, hfo⟩
end Go.Proofs.Ytadpjgjkicmhiaa
