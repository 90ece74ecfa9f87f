/-
  Chapter 8: the parser as plain fields; the signs at the ground, behind 1B.
-/
import Derived.Test.YtaficleoimfejaaEsc
namespace Go.Proofs.Ytaficleoimfejaa
open Go.RowKit
set_option linter.unusedVariables false
set_option linter.unusedSimpArgs false

structure Ev where
  kind : Int
  r : Int
  ps : List Int
  priv : Int
  inter : Int
  fin : Int
  text : ByteArray
structure PS where
  st : Int
  params : List Int
  told : Bool
  priv : Int
  inter : Int
  sp : Bool
  text : List Int
  out : List Ev
/-- An event's cells, its params lying at that slice. -/
def evc (x : Ev × Value) : List Value := [.int .i64 x.1.kind, .int .i32 x.1.r, x.2, .int .i32 x.1.priv, .int .i32 x.1.inter, .int .i32 x.1.fin, .string x.1.text]
/-- A parser at p; F: its own blocks; G: where its events' params lie. -/
def PR (w : World) (p : Nat) (s : PS) (F G : Nat → Prop) : Prop :=
  ∃ (q : List (Ev × Value)) (vp vt vo : Value), Blk w p 49 (pcs s.st vp s.told s.priv s.inter s.sp vt vo) ∧ Own w 3 1 vp s.params.length (intI s.params) ∧
    Own w 21 1 vt s.text.length (runesV s.text) ∧ Own w 41 7 vo q.length (q.flatMap evc) ∧ q.map Prod.fst = s.out ∧
    (∀ x ∈ q, Rd w 1 x.2 x.1.ps.length (intI x.1.ps) ∧ ∀ k, blkOf x.2 k → G k ∧ ¬ F k ∧ k < w.heap.size) ∧ ∀ k, F k ↔ (k = p ∨ blkOf vp k ∨ blkOf vt k ∨ blkOf vo k)
def UP (p : Nat) (s : PS) (F G : Nat → Prop) (w w' : World) : Prop :=
  Chg w w' F ∧ ∃ F' G', PR w' p s F' G' ∧ (∀ k, F' k → F k ∨ w.heap.size ≤ k) ∧ ∀ k, G' k → G k ∨ F k ∨ w.heap.size ≤ k
section
variable {p : Nat} {s s1 s2 : PS} {F G F1 G1 : Nat → Prop} {w w1 w2 : World}
theorem UP.refl (h : PR w p s F G) : UP p s F G w w := ⟨Chg.refl w F, F, G, h, fun _ h => .inl h, fun _ h => .inl h⟩
theorem UP.step (hc : Chg w w1 F) (hF : ∀ k, F1 k → F k ∨ w.heap.size ≤ k) (hG : ∀ k, G1 k → G k ∨ F k ∨ w.heap.size ≤ k) (h : UP p s F1 G1 w1 w2) : UP p s F G w w2 := by
  obtain ⟨hc2, F2, G2, hP, hF2, hG2⟩ := h
  refine ⟨hc.trans hc2 (fun i hi h => (hF i h).resolve_right (by omega)), F2, G2, hP, fun k hk => ?_, fun k hk => ?_⟩
  · rcases hF2 k hk with h | h
    · exact hF k h
    · exact .inr (Nat.le_trans hc.size h)
  · rcases hG2 k hk with h | h | h
    · exact hG k h
    · exact .inr (hF k h)
    · exact .inr (.inr (Nat.le_trans hc.size h))
theorem UP.trans (h : UP p s1 F G w w1) (h2 : ∀ F1 G1, PR w1 p s1 F1 G1 → UP p s2 F1 G1 w1 w2) : UP p s2 F G w w2 := by
  obtain ⟨hc, F1, G1, hP, hF, hG⟩ := h
  exact UP.step hc hF hG (h2 F1 G1 hP)
theorem Own.apart {e e' : TypeId} {z z' n n' : Nat} {v v' : Value} {xs ys : List Value} (h : Own w e z v n xs) (h' : Own w e' z' v' n' ys) (hne : e ≠ e') {k : Nat} (hk : blkOf v k) : ¬ blkOf v' k := fun hk' => by
  obtain ⟨c, h1⟩ := h.row hk
  obtain ⟨c', h2⟩ := h'.row hk'
  exact hne (h1.inj h2).1
theorem PR.lt (h : PR w p s F G) {k : Nat} (hk : F k) : k < w.heap.size := by
  obtain ⟨q, vp, vt, vo, hb, h1, h2, h3, h4, h5, h6⟩ := h
  rcases (h6 k).1 hk with rfl | h | h | h
  · exact hb.lt
  · exact h1.lt h
  · exact h2.lt h
  · exact h3.lt h
theorem PR.kept (h : PR w p s F G) {F0 : Nat → Prop} (hc : Chg w w1 F0) (h0 : ∀ k, F k → ¬ F0 k) (hg : ∀ k, G k → ¬ F0 k) : PR w1 p s F G := by
  obtain ⟨q, vp, vt, vo, hb, h1, h2, h3, h4, h5, h6⟩ := h
  exact ⟨q, vp, vt, vo, hb.kept hc (h0 _ ((h6 _).2 (.inl rfl))), h1.kept hc (fun k hk => h0 _ ((h6 _).2 (.inr (.inl hk)))), h2.kept hc (fun k hk => h0 _ ((h6 _).2 (.inr (.inr (.inl hk))))),
    h3.kept hc (fun k hk => h0 _ ((h6 _).2 (.inr (.inr (.inr hk))))), h4, fun x hx => ⟨(h5 x hx).1.kept hc (fun k hk => hg k ((h5 x hx).2 k hk).1), fun k hk => ⟨((h5 x hx).2 k hk).1, ((h5 x hx).2 k hk).2.1, Nat.lt_of_lt_of_le ((h5 x hx).2 k hk).2.2 hc.size⟩⟩, h6⟩
end

theorem tells_any {w : World} {p : Nat} {s : PS} {F G : Nat → Prop} (h : PR w p s F G) (hn : s.out.length ≤ 1000000) (k r pr it fi : Int) (tx : ByteArray) :
    Calls Try.prog 34 #[.pointer (some ⟨p, 0, none⟩), .agg #[.int .i64 k, .int .i32 r, .slice none 0 0, .int .i32 pr, .int .i32 it, .int .i32 fi, .string tx]] w fun e w' =>
      e = .returned (.tuple #[]) ∧ UP p { s with out := s.out ++ [⟨k, r, [], pr, it, fi, tx⟩] } F G w w' := by
  obtain ⟨q, vp, vt, vo, hb, h1, h2, h3, h4, h5, h6⟩ := h
  have hq : q.length = s.out.length := by rw [← h4, List.length_map]
  refine (tells_lo w p _ _ _ _ _ _ _ vo q.length _ k r none 0 0 pr it fi tx hb h3 (by omega)).mono fun e w' ⟨he, vo', hb', ho', hc, hf⟩ => ⟨he, hc.mono (fun x _ hx => ?_), fun x => x = p ∨ blkOf vp x ∨ blkOf vt x ∨ blkOf vo' x, G,
    ⟨q ++ [(⟨k, r, [], pr, it, fi, tx⟩, .slice none 0 0)], vp, vt, vo', hb', h1.kept hc ?_, h2.kept hc ?_, ?_, by simp [h4], fun x hx => ?_, fun _ => Iff.rfl⟩, fun x hx => ?_, fun x hx => .inl hx⟩
  · rcases hx with hx | hx
    · exact (h6 x).2 (.inl hx)
    · exact (h6 x).2 (.inr (.inr (.inr hx)))
  · rintro x hx (rfl | hv)
    · exact h1.ne hb (by decide) hx
    · exact h1.apart h3 (by decide) hx hv
  · rintro x hx (rfl | hv)
    · exact h2.ne hb (by decide) hx
    · exact h2.apart h3 (by decide) hx hv
  · simpa [evc] using ho'
  · rcases List.mem_append.1 hx with hx | hx
    · refine ⟨(h5 x hx).1.kept hc (fun y hy hyF => ((h5 x hx).2 y hy).2.1 ?_), fun y hy => ⟨((h5 x hx).2 y hy).1, fun hyF => ?_, Nat.lt_of_lt_of_le ((h5 x hx).2 y hy).2.2 hc.size⟩⟩
      · rcases hyF with hyF | hyF
        · exact (h6 y).2 (.inl hyF)
        · exact (h6 y).2 (.inr (.inr (.inr hyF)))
      · have hno := ((h5 x hx).2 y hy).2.1
        have hlt := ((h5 x hx).2 y hy).2.2
        rcases hyF with hyF | hyF | hyF | hyF
        · exact hno ((h6 y).2 (.inl hyF))
        · exact hno ((h6 y).2 (.inr (.inl hyF)))
        · exact hno ((h6 y).2 (.inr (.inr (.inl hyF))))
        · rcases hf y hyF with h | h
          · exact hno ((h6 y).2 (.inr (.inr (.inr h))))
          · omega
    · rw [List.mem_singleton] at hx
      subst hx
      exact ⟨⟨none, 0, rfl, Nat.le_refl _, rfl, fun j u hu => by simp [intI] at hu⟩, fun y hy => by cases hy⟩
  · rcases hx with hx | hx | hx | hx
    · exact .inl ((h6 x).2 (.inl hx))
    · exact .inl ((h6 x).2 (.inr (.inl hx)))
    · exact .inl ((h6 x).2 (.inr (.inr (.inl hx))))
    · rcases hf x hx with h | h
      · exact .inl ((h6 x).2 (.inr (.inr (.inr h))))
      · exact .inr h

def goesS (s : PS) (nx : Int) : PS := { s with st := nx, params := [-1], told := false, priv := 0, inter := 0, sp := false, text := [] }
theorem goes_any {w : World} {p : Nat} {s : PS} {F G : Nat → Prop} (h : PR w p s F G) (nx : Int) :
    Calls Try.prog 21 #[.pointer (some ⟨p, 0, none⟩), .int .i64 nx] w fun e w' =>
      e = .returned (.tuple #[]) ∧ UP p (goesS s nx) F G w w' := by
  obtain ⟨q, vp, vt, vo, hb, h1, h2, h3, h4, h5, h6⟩ := h
  refine (goes_lo w p _ _ _ _ _ _ _ vo nx hb).mono fun e w' ⟨he, vp', hb', ho', hc, hf⟩ => ⟨he, hc.mono (fun x _ hx => (h6 x).2 (.inl hx)), fun x => x = p ∨ blkOf vp' x ∨ blkOf (.slice none 0 0) x ∨ blkOf vo x, G,
    ⟨q, vp', .slice none 0 0, vo, hb', ho', World.ownsRow_nil _ _ _ _, h3.kept hc (fun x hx hp => by subst hp; exact h3.ne hb (by decide) hx), h4, fun x hx => ?_, fun _ => Iff.rfl⟩, fun x hx => ?_, fun x hx => .inl hx⟩
  · refine ⟨(h5 x hx).1.kept hc (fun y hy hyF => ((h5 x hx).2 y hy).2.1 ((h6 y).2 (.inl hyF))), fun y hy => ⟨((h5 x hx).2 y hy).1, fun hyF => ?_, Nat.lt_of_lt_of_le ((h5 x hx).2 y hy).2.2 hc.size⟩⟩
    have hno := ((h5 x hx).2 y hy).2.1
    have hlt := ((h5 x hx).2 y hy).2.2
    rcases hyF with hyF | hyF | hyF | hyF
    · exact hno ((h6 y).2 (.inl hyF))
    · have := hf y hyF; omega
    · cases hyF
    · exact hno ((h6 y).2 (.inr (.inr (.inr hyF))))
  · rcases hx with hx | hx | hx | hx
    · exact .inl ((h6 x).2 (.inl hx))
    · exact .inr (hf x hx)
    · cases hx
    · exact .inl ((h6 x).2 (.inr (.inr (.inr hx))))

/-- An event that has but a kind and signs. -/
def ev0 (k r it fi : Int) : Ev := ⟨k, r, [], 0, it, fi, .empty⟩
def tellS (s : PS) (e : Ev) : PS := { s with out := s.out ++ [e] }
set_option maxHeartbeats 1000000 in
theorem low_lt {w : World} {p : Nat} {s : PS} {F G : Nat → Prop} (h : PR w p s F G) (hn : s.out.length ≤ 1000000) (r : Int) (hr : r < 32) :
    Calls Try.prog 33 #[.pointer (some ⟨p, 0, none⟩), .int .i32 r] w fun e w' =>
      e = .returned (.bool true) ∧ UP p (tellS s (ev0 2 r 0 0)) F G w w' := by
  have H := Lib.hid h
  clear h
  go_enter Try.func33, Try.ntmps33
  go_wp2_with fail
  go_at_call 34
  refine (tells_any H.out hn 2 r 0 0 0 .empty).mono ?_
  rintro e w1 ⟨rfl, hU⟩
  have HU := Lib.hid hU
  clear hU
  go_wp2
  go_ret
  exact ⟨rfl, HU.out⟩
set_option maxHeartbeats 1000000 in
theorem low_ge (w : World) (p : Nat) (r : Int) (hr : ¬ r < 32) :
    Calls Try.prog 33 #[.pointer (some ⟨p, 0, none⟩), .int .i32 r] w fun e w' => e = .returned (.bool false) ∧ w' = w := by
  go_enter Try.func33, Try.ntmps33
  go_wp2
  go_ret
  exact ⟨rfl, rfl⟩

def groundS (s : PS) (r : Int) : PS := if r < 32 then tellS s (ev0 2 r 0 0) else if r < 127 ∨ 159 < r then tellS s (ev0 1 r 0 0) else s
set_option maxHeartbeats 4000000 in
theorem ground_any {w : World} {p : Nat} {s : PS} {F G : Nat → Prop} (h : PR w p s F G) (hn : s.out.length ≤ 1000000) (r : Int) :
    Calls Try.prog 22 #[.pointer (some ⟨p, 0, none⟩), .int .i32 r] w fun e w' => e = .returned (.tuple #[]) ∧ UP p (groundS s r) F G w w' := by
  have H := Lib.hid h
  clear h
  by_cases hr : r < 32
  · rw [show groundS s r = tellS s (ev0 2 r 0 0) by unfold groundS; rw [if_pos hr]]
    go_enter Try.func22, Try.ntmps22
    go_wp2_with fail
    go_at_call 33
    refine (low_lt H.out hn _ (by omega)).mono ?_
    rintro e w1 ⟨rfl, hU⟩
    have HU := Lib.hid hU
    clear hU
    go_wp2
    go_end0
    exact ⟨rfl, HU.out⟩
  · by_cases h1 : r < 127
    · rw [show groundS s r = tellS s (ev0 1 r 0 0) by unfold groundS; rw [if_neg hr, if_pos (.inl h1)]]
      go_enter Try.func22, Try.ntmps22
      go_wp2_with fail
      go_at_call 33
      refine (low_ge _ _ _ (by omega)).mono ?_
      rintro e w1 ⟨rfl, rfl⟩
      go_wp2_with fail
      go_at_call 34
      refine (tells_any H.out hn 1 r 0 0 0 .empty).mono ?_
      rintro e w2 ⟨rfl, hU⟩
      have HU := Lib.hid hU
      clear hU
      go_wp2
      go_end0
      exact ⟨rfl, HU.out⟩
    · by_cases h2 : 159 < r
      · rw [show groundS s r = tellS s (ev0 1 r 0 0) by unfold groundS; rw [if_neg hr, if_pos (.inr h2)]]
        go_enter Try.func22, Try.ntmps22
        go_wp2_with fail
        go_at_call 33
        refine (low_ge _ _ _ (by omega)).mono ?_
        rintro e w1 ⟨rfl, rfl⟩
        go_wp2_with fail
        go_at_call 34
        refine (tells_any H.out hn 1 r 0 0 0 .empty).mono ?_
        rintro e w2 ⟨rfl, hU⟩
        have HU := Lib.hid hU
        clear hU
        go_wp2
        go_end0
        exact ⟨rfl, HU.out⟩
      · rw [show groundS s r = s by unfold groundS; rw [if_neg hr, if_neg (by omega)]]
        go_enter Try.func22, Try.ntmps22
        go_wp2_with fail
        go_at_call 33
        refine (low_ge _ _ _ (by omega)).mono ?_
        rintro e w1 ⟨rfl, rfl⟩
        go_wp2
        go_end0
        exact ⟨rfl, UP.refl H.out⟩
end Go.Proofs.Ytaficleoimfejaa
