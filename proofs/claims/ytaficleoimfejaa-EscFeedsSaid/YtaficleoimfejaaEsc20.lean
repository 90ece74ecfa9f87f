/-
  Chapter 8, the document's answer: its parser as plain fields; begin, escape, between.
-/
import Derived.Test.YtaficleoimfejaaEsc16
namespace Go.Proofs.Ytaficleoimfejaa
open Go.RowKit
set_option linter.unusedVariables false
set_option linter.unusedSimpArgs false

structure RS where
  st : Int
  params : List Int
  any : Bool
  sp : Bool
  priv : Int
  inter : Int
  text : List Int
abbrev rcs (st : Int) (vp : Value) (any sp : Bool) (priv inter : Int) (vt : Value) : Array Value := #[.int .i64 st, vp, .bool any, .bool sp, .int .i32 priv, .int .i32 inter, vt]
def RR (w : World) (x : Nat) (s : RS) (F : Nat → Prop) : Prop :=
  ∃ (vp vt : Value), Blk w x 29 (rcs s.st vp s.any s.sp s.priv s.inter vt) ∧ Own w 3 1 vp s.params.length (intI s.params) ∧ Own w 21 1 vt s.text.length (runesV s.text) ∧ ∀ k, F k ↔ (k = x ∨ blkOf vp k ∨ blkOf vt k)
def RU (x : Nat) (s : RS) (F : Nat → Prop) (w w' : World) : Prop := Chg w w' F ∧ ∃ F', RR w' x s F' ∧ ∀ k, F' k → F k ∨ w.heap.size ≤ k
/-- Events of the document's, in a row; P: where their params lie, R: where the row lies. -/
def EVT (w : World) (v : Value) (l : List Ev) (P R : Nat → Prop) : Prop :=
  ∃ q : List (Ev × Value), q.map Prod.fst = l ∧ Own w 50 7 v q.length (q.flatMap evc) ∧ (∀ x ∈ q, Rd w 1 x.2 x.1.ps.length (intI x.1.ps) ∧ ∀ k, blkOf x.2 k → P k) ∧ ∀ k, blkOf v k → R k
/-- The parser is another one, and what is told lies in new rows. -/
def RO (x : Nat) (s : RS) (l : List Ev) (F : Nat → Prop) (w w' : World) (v : Value) : Prop :=
  Chg w w' F ∧ ∃ F' P R, RR w' x s F' ∧ EVT w' v l P R ∧ (∀ k, F' k → F k ∨ w.heap.size ≤ k) ∧ (∀ k, P k → w.heap.size ≤ k ∧ ¬ F' k ∧ k < w'.heap.size ∧ ¬ R k) ∧ ∀ k, R k → w.heap.size ≤ k ∧ ¬ F' k ∧ k < w'.heap.size
section
variable {x : Nat} {s s1 s2 : RS} {F F1 : Nat → Prop} {w w1 w2 : World}
theorem RR.lt (h : RR w x s F) {k : Nat} (hk : F k) : k < w.heap.size := by
  obtain ⟨vp, vt, hb, h1, h2, h6⟩ := h
  rcases (h6 k).1 hk with rfl | h | h
  · exact hb.lt
  · exact h1.lt h
  · exact h2.lt h
theorem RR.kept (h : RR w x s F) {F0 : Nat → Prop} (hc : Chg w w1 F0) (h0 : ∀ k, F k → ¬ F0 k) : RR w1 x s F := by
  obtain ⟨vp, vt, hb, h1, h2, h6⟩ := h
  exact ⟨vp, vt, hb.kept hc (h0 _ ((h6 _).2 (.inl rfl))), h1.kept hc (fun k hk => h0 _ ((h6 _).2 (.inr (.inl hk)))), h2.kept hc (fun k hk => h0 _ ((h6 _).2 (.inr (.inr hk)))), h6⟩
theorem RU.refl (h : RR w x s F) : RU x s F w w := ⟨Chg.refl w F, F, h, fun _ h => .inl h⟩
theorem RU.step (hc : Chg w w1 F) (hF : ∀ k, F1 k → F k ∨ w.heap.size ≤ k) (h : RU x s F1 w1 w2) : RU x s F w w2 := by
  obtain ⟨hc2, F2, hP, hF2⟩ := h
  refine ⟨hc.trans hc2 (fun i hi h => (hF i h).resolve_right (by omega)), F2, hP, fun k hk => ?_⟩
  rcases hF2 k hk with h | h
  · exact hF k h
  · exact .inr (Nat.le_trans hc.size h)
theorem RU.trans (h : RU x s1 F w w1) (h2 : ∀ F1, RR w1 x s1 F1 → RU x s2 F1 w1 w2) : RU x s2 F w w2 := by
  obtain ⟨hc, F1, hP, hF⟩ := h
  exact RU.step hc hF (h2 F1 hP)
theorem RO.nil (h : RU x s F w w1) : RO x s [] F w w1 (.slice none 0 0) := by
  obtain ⟨hc, F1, hP, hF⟩ := h
  exact ⟨hc, F1, nob, nob, hP, ⟨[], rfl, World.ownsRow_nil _ _ _ _, fun x hx => by simp at hx, fun k hk => by cases hk⟩, hF, fun k hk => hk.elim, fun k hk => hk.elim⟩
theorem RO.lit (h : RU x s F w w1) (ev : Ev) (hev : ev.ps = []) (cs : Array Value) (hcs : cs = (evc (ev, .slice none 0 0)).toArray) (n : Nat) (hn : n = w1.heap.size) : RO x s [ev] F w (w1.alloc (.cells cs 50)) (.slice (some ⟨n, 0, none⟩) 1 1) := by
  subst hcs hn
  obtain ⟨hc, F1, hP, hF⟩ := h
  refine ⟨hc.alloc _, F1, nob, fun k => k = w1.heap.size, hP.kept ((Chg.refl w1 nob).alloc _) (fun _ _ => id), ⟨[(ev, .slice none 0 0)], rfl, ?_, fun y hy => ?_, fun k hk => by cases hk; rfl⟩, hF, fun k hk => hk.elim, fun k hk => ?_⟩
  · exact ⟨rfl, .inr ⟨w1.heap.size, 1, (evc (ev, .slice none 0 0)).toArray, rfl, Nat.zero_le _, Blk.new w1 _ _, Nat.le_refl _, by unfold maxLen; omega, rfl, by simp [evc]⟩⟩
  · rw [List.mem_singleton] at hy
    subst hy
    exact ⟨⟨none, 0, by rw [hev]; rfl, by simp [hev], by rw [hev]; rfl, fun j u hu => by rw [hev] at hu; simp [intI] at hu⟩, fun k hk => by cases hk⟩
  · have hk' : k = w1.heap.size := hk
    subst hk'
    exact ⟨hc.size, fun h => by have := hP.lt h; omega, by simp⟩
/-- A parser's own numbers changed in place. -/
theorem RR.num (h : RR w x s F) (s' : RS) (hp : s'.params = s.params) (ht : s'.text = s.text) (hc : Chg w w1 (fun y => y = x))
    (hb : ∀ vp vt, Blk w x 29 (rcs s.st vp s.any s.sp s.priv s.inter vt) → Blk w1 x 29 (rcs s'.st vp s'.any s'.sp s'.priv s'.inter vt)) : RU x s' F w w1 := by
  obtain ⟨vp, vt, hb0, h1, h2, h6⟩ := h
  have hp0 : F x := (h6 x).2 (.inl rfl)
  refine ⟨hc.mono (fun y _ hy => by subst hy; exact hp0), F, ⟨vp, vt, hb _ _ hb0, ?_, ?_, h6⟩, fun _ h => .inl h⟩
  · rw [hp]; exact h1.kept hc (fun k hk e => by subst e; exact h1.ne hb0 (by decide) hk)
  · rw [ht]; exact h2.kept hc (fun k hk e => by subst e; exact h2.ne hb0 (by decide) hk)
theorem RR.nums (h : RR w x s F) : w.cell? ⟨x, 0, none⟩ = some (.int .i64 s.st) ∧ w.cell? ⟨x, 2, none⟩ = some (.bool s.any) ∧ w.cell? ⟨x, 3, none⟩ = some (.bool s.sp) ∧ w.cell? ⟨x, 4, none⟩ = some (.int .i32 s.priv) ∧ w.cell? ⟨x, 5, none⟩ = some (.int .i32 s.inter) ∧
    w.frozen? ⟨x, 0, none⟩ = false ∧ w.frozen? ⟨x, 2, none⟩ = false ∧ w.frozen? ⟨x, 3, none⟩ = false ∧ w.frozen? ⟨x, 4, none⟩ = false ∧ w.frozen? ⟨x, 5, none⟩ = false := by
  obtain ⟨vp, vt, hb, _⟩ := h
  exact ⟨by rw [hb.cell]; rfl, by rw [hb.cell]; rfl, by rw [hb.cell]; rfl, by rw [hb.cell]; rfl, by rw [hb.cell]; rfl, hb.free 0, hb.free 2, hb.free 3, hb.free 4, hb.free 5⟩
end
def beginS (n : Int) : RS := ⟨n, [-1], false, false, 0, 0, []⟩
set_option maxRecDepth 100000 in
set_option maxHeartbeats 4000000 in
theorem begin_any {w : World} {x : Nat} {s : RS} {F : Nat → Prop} (h : RR w x s F) (nx : Int) :
    Calls Try.prog 37 #[.pointer (some ⟨x, 0, none⟩), .int .i64 nx] w fun e w' => e = .returned (.tuple #[]) ∧ RU x (beginS nx) F w w' := by
  obtain ⟨vp, vt, hb, i1, i2, i6⟩ := h
  obtain ⟨wd, hwd⟩ : ∃ wd, w.alloc (.cells #[.int .i64 (-1)] 3) = wd := ⟨_, rfl⟩
  have hbd : Blk wd x 29 (rcs s.st vp s.any s.sp s.priv s.inter vt) := by rw [← hwd]; exact hb.alloc _
  have hod : Own wd 3 1 (.slice (some ⟨w.heap.size, 0, none⟩) 1 1) 1 [.int .i64 (-1)] := by
    rw [← hwd]
    exact ⟨rfl, .inr ⟨w.heap.size, 1, #[.int .i64 (-1)], rfl, Nat.zero_le _, Blk.new w _ _, Nat.le_refl _, by unfold maxLen; omega, rfl, rfl⟩⟩
  have hcd : Chg w wd nob := by rw [← hwd]; exact (Chg.refl w nob).alloc _
  have hf0 := hbd.free 0
  have hf1 := hbd.free 1
  have hf2 := hbd.free 2
  have hf3 := hbd.free 3
  have hf4 := hbd.free 4
  have hf5 := hbd.free 5
  have hf6 := hbd.free 6
  have hc0 := hbd.cell 0
  have hc1 := hbd.cell 1
  have hc2 := hbd.cell 2
  have hc3 := hbd.cell 3
  have hc4 := hbd.cell 4
  have hc5 := hbd.cell 5
  have hc6 := hbd.cell 6
  simp only [List.getElem?_toArray, List.getElem?_cons_zero, List.getElem?_cons_succ] at hc0 hc1 hc2 hc3 hc4 hc5 hc6
  have HBD := Lib.hid hbd
  have HOD := Lib.hid hod
  have HCD := Lib.hid hcd
  have HWD := Lib.hid hwd
  have hFx : F x := (i6 x).2 (.inl rfl)
  have HFX := Lib.hid hFx
  rw [← hwd] at hf0 hf1 hf2 hf3 hf4 hf5 hf6 hc0 hc1 hc2 hc3 hc4 hc5 hc6
  clear hb hbd hod hcd hwd i1 i2 i6 hFx
  go_enter Try.func37, Try.ntmps37
  go_wp2
  go_end0
  rw [HWD.out]
  have hne := HOD.out.ne HBD.out (by decide)
  have h0 : Chg w wd F := HCD.out.mono (fun _ _ h => h.elim)
  refine ⟨rfl, ((((((h0.setCell (.inl HFX.out) _).setCell (.inl HFX.out) _).setCell (.inl HFX.out) _).setCell (.inl HFX.out) _).setCell (.inl HFX.out) _).setCell (.inl HFX.out) _).setCell (.inl HFX.out) _,
    fun k => k = x ∨ blkOf (.slice (some ⟨w.heap.size, 0, none⟩) 1 1) k ∨ blkOf (.slice none 0 0) k, ⟨.slice (some ⟨w.heap.size, 0, none⟩) 1 1, .slice none 0 0, (((((((HBD.out.set 0 _).set 1 _).set 2 _).set 3 _).set 4 _).set 5 _).set 6 _), ?_, World.ownsRow_nil _ _ _ _, fun _ => Iff.rfl⟩, fun k hk => ?_⟩
  · exact Own.setOther (Own.setOther (Own.setOther (Own.setOther (Own.setOther (Own.setOther (Own.setOther HOD.out hne _) hne _) hne _) hne _) hne _) hne _) hne _
  · rcases hk with hk | hk | hk
    · subst hk; exact .inl HFX.out
    · cases hk; exact .inr (Nat.le_refl _)
    · cases hk
end Go.Proofs.Ytaficleoimfejaa
