/-
  Chapter 8: both parsers, and what they told.
-/
import Derived.Test.YtaficleoimfejaaEsc18
namespace Go.Proofs.Ytaficleoimfejaa
open Go.RowKit
set_option linter.unusedVariables false
set_option linter.unusedSimpArgs false

def Ps16 (s : PS) : Prop := ∀ ev ∈ s.out, ev.ps.length ≤ 16
section
variable {s : PS} {r : Int}
theorem Ps16.tell (h : Ps16 s) {e : Ev} (he : e.ps.length ≤ 16) : Ps16 (tellS s e) := fun ev hev => by
  rcases List.mem_append.1 hev with h1 | h1
  · exact h ev h1
  · rw [List.mem_singleton] at h1; subst h1; exact he
theorem ps16_take (h : Ps16 s) : Ps16 (takeS s r) := by
  have h0 : ∀ a b c d, Ps16 (tellS s (ev0 a b c d)) := fun a b c d => h.tell (by simp [ev0])
  have he : Ps16 (endsS s) := fun ev hev => h.tell (e := ⟨5, 0, [], 0, 0, 0, runesBytes s.text⟩) (by simp) ev hev
  have hx : ∀ s', s'.out = s.out → Ps16 (escapeS s' r) := fun s' hs => by
    have h' : Ps16 s' := fun ev hev => h ev (by rw [← hs]; exact hev)
    have h0' : ∀ a b c d, Ps16 (tellS s' (ev0 a b c d)) := fun a b c d => h'.tell (by simp [ev0])
    unfold escapeS
    (repeat' split) <;> first | exact h0' _ _ _ _ | exact h'
  have hc : Ps16 (controlS s r) := by
    unfold controlS partS
    (repeat' split) <;> first | exact h0 _ _ _ _ | exact h | skip
    refine fun ev hev => h.tell (e := csiE s r) ?_ ev hev
    unfold csiE
    simp only
    split
    · rw [List.length_take]; omega
    · simp
  unfold takeS
  (repeat' split) <;> first | exact h | exact hc | exact he | exact hx _ rfl | skip
  · unfold groundS; (repeat' split) <;> first | exact h0 _ _ _ _ | exact h
  · unfold betweenS; (repeat' split) <;> first | exact h0 _ _ _ _ | exact h
  · unfold commandS; (repeat' split) <;> first | exact he | exact h
theorem ps16_run : ∀ (l : List Int) (s : PS), Ps16 s → Ps16 (runS s l)
  | [], s, h => h
  | r :: t, s, h => ps16_run t _ (ps16_take h)
end
theorem h_feed2 {w0 w : World} {p : Nat} {s : PS} {n : Nat} {F : Nat → Prop} (h : PH w0 w p s n F) (va : Value) (l : List Int) (ha : Rd w 1 va l.length (runesV l)) (hd : l ≠ [] → ∀ k, blkOf va k → ¬ F k) (hl : n + l.length ≤ 900000) :
    Calls Try.prog 11 #[.pointer (some ⟨p, 0, none⟩), va] w fun e w' =>
      ∃ v F' P R, e = .returned v ∧ PH w0 w' p (outE (runS s l)) (n + l.length) F' ∧ EVB w' v (runS s l).out P R ∧ Chg w w' F ∧ (∀ k, F' k → F k ∨ w.heap.size ≤ k) ∧
        (∀ k, P k → (F k ∨ w.heap.size ≤ k) ∧ ¬ F' k ∧ k < w'.heap.size ∧ ¬ R k) ∧ ∀ k, R k → (F k ∨ w.heap.size ≤ k) ∧ ¬ F' k ∧ k < w'.heap.size :=
  (feed_two h.pr h.out h.ok va l ha hd hl).mono fun e w' ⟨v, F', P, R, he, hc, hP, hE, hF, hD, hR⟩ => ⟨v, F', P, R, he, ⟨rfl, (h.ok.run l).outE, hP, h.chg.trans hc (fun i hi hf => by have := h.own i hf; omega), fun k hk => by
    rcases hF k hk with h1 | h1
    · exact h.own k h1
    · exact Nat.le_trans h.chg.size h1⟩, hE, hc, hF, hD, hR⟩
theorem PH.apart {w0 w w' : World} {p : Nat} {s : PS} {n : Nat} {F G : Nat → Prop} (h : PH w0 w p s n F) (hc : Chg w w' G) (hG : ∀ k, F k → ¬ G k) (h0 : ∀ k, G k → w0.heap.size ≤ k) : PH w0 w' p s n F :=
  ⟨h.out, h.ok, h.pr.kept hc hG (fun k hk => hk.elim), h.chg.trans hc (fun i hi hf => by have := h0 i hf; omega), h.own⟩
/-- Both parsers, and what they told. -/
structure BB (w0 w : World) (p q : Nat) (S T : PS) (n k : Nat) (Fp Fq : Nat → Prop) (va vb : Value) (la lb : List Ev) (Pa Ra Pb Rb : Nat → Prop) : Prop where
  hp : PH w0 w p S n Fp
  hq : PH w0 w q T k Fq
  ha : EVB w va la Pa Ra
  hb : EVB w vb lb Pb Rb
  pq : ∀ x, Fp x → ¬ Fq x ∧ ¬ Rb x
  aq : ∀ x, (Pa x ∨ Ra x) → x < w.heap.size ∧ ¬ Fq x ∧ ¬ Rb x
  bq : ∀ x, Pb x → x < w.heap.size ∧ ¬ Fq x ∧ ¬ Rb x
  rq : ∀ x, Rb x → x < w.heap.size ∧ ¬ Fq x ∧ w0.heap.size ≤ x
theorem BB.kept {w0 w w' : World} {p q : Nat} {S T : PS} {n k : Nat} {Fp Fq : Nat → Prop} {va vb : Value} {la lb : List Ev} {Pa Ra Pb Rb : Nat → Prop} (h : BB w0 w p q S T n k Fp Fq va vb la lb Pa Ra Pb Rb) (hc : Chg w w' nob) :
    BB w0 w' p q S T n k Fp Fq va vb la lb Pa Ra Pb Rb :=
  ⟨h.hp.kept hc, h.hq.kept hc, h.ha.kept hc (fun _ _ => id) (fun _ _ => id), h.hb.kept hc (fun _ _ => id) (fun _ _ => id), h.pq, fun x hx => ⟨Nat.lt_of_lt_of_le (h.aq x hx).1 hc.size, (h.aq x hx).2⟩, fun x hx => ⟨Nat.lt_of_lt_of_le (h.bq x hx).1 hc.size, (h.bq x hx).2⟩, fun x hx => ⟨Nat.lt_of_lt_of_le (h.rq x hx).1 hc.size, (h.rq x hx).2⟩⟩
/-- The second one has taken signs. -/
theorem BB.fed {w0 w w' : World} {p q : Nat} {S T T' : PS} {n k k' : Nat} {Fp Fq Fq' : Nat → Prop} {va vb : Value} {la lb : List Ev} {Pa Ra Pb Rb : Nat → Prop} (h : BB w0 w p q S T n k Fp Fq va vb la lb Pa Ra Pb Rb)
    (hq : PH w0 w' q T' k' Fq') (hc : Chg w w' Fq) (hF : ∀ x, Fq' x → Fq x ∨ w.heap.size ≤ x) : BB w0 w' p q S T' n k' Fp Fq' va vb la lb Pa Ra Pb Rb := by
  have hno : ∀ x, x < w.heap.size → ¬ Fq x → ¬ Fq' x := fun x hx hn hf => by
    rcases hF x hf with h1 | h1
    · exact hn h1
    · omega
  exact ⟨h.hp.apart hc (fun x hx => (h.pq x hx).1) h.hq.own, hq, h.ha.kept hc (fun x hx => (h.aq x (.inl hx)).2.1) (fun x hx => (h.aq x (.inr hx)).2.1), h.hb.kept hc (fun x hx => (h.bq x hx).2.1) (fun x hx => (h.rq x hx).2.1),
    fun x hx => ⟨hno x (h.hp.pr.lt hx) (h.pq x hx).1, (h.pq x hx).2⟩, fun x hx => ⟨Nat.lt_of_lt_of_le (h.aq x hx).1 hc.size, hno x (h.aq x hx).1 (h.aq x hx).2.1, (h.aq x hx).2.2⟩,
    fun x hx => ⟨Nat.lt_of_lt_of_le (h.bq x hx).1 hc.size, hno x (h.bq x hx).1 (h.bq x hx).2.1, (h.bq x hx).2.2⟩, fun x hx => ⟨Nat.lt_of_lt_of_le (h.rq x hx).1 hc.size, hno x (h.rq x hx).1 (h.rq x hx).2.1, (h.rq x hx).2.2⟩⟩
/-- Its events go behind those that were there. -/
theorem BB.push {w0 w w' : World} {p q : Nat} {S T : PS} {n k : Nat} {Fp Fq : Nat → Prop} {va vb vb' : Value} {la lb l : List Ev} {Pa Ra P : Nat → Prop} {qb qv : List (Ev × Value)} {Pb Rb : Nat → Prop} (h : BB w0 w p q S T n k Fp Fq va vb la lb Pa Ra Pb Rb)
    (hqb : qb.map Prod.fst = lb) (hqb3 : ∀ x ∈ qb, Rd w 1 x.2 x.1.ps.length (intI x.1.ps) ∧ ∀ k, blkOf x.2 k → Pb k) (hqv : qv.map Prod.fst = l) (hqv3 : ∀ x ∈ qv, Rd w 1 x.2 x.1.ps.length (intI x.1.ps) ∧ ∀ k, blkOf x.2 k → P k)
    (hRb : ∀ x, blkOf vb x → Rb x) (hP : ∀ x, P x → x < w.heap.size ∧ ¬ Fq x ∧ ¬ Rb x)
    (ho : Own w' 41 7 vb' (qb.length + qv.length) (qb.flatMap evc ++ qv.flatMap evc)) (hc : Chg w w' (blkOf vb)) (hf : ∀ x, blkOf vb' x → blkOf vb x ∨ w.heap.size ≤ x) :
    BB w0 w' p q S T n k Fp Fq va vb' la (lb ++ l) Pa Ra (fun x => Pb x ∨ P x) (blkOf vb') := by
  have hno : ∀ x, x < w.heap.size → ¬ Rb x → ¬ blkOf vb' x := fun x hx hn hb => by
    rcases hf x hb with h1 | h1
    · exact hn (hRb x h1)
    · omega
  have hnr : ∀ x, ¬ Rb x → ¬ blkOf vb x := fun x hn hb => hn (hRb x hb)
  refine ⟨h.hp.apart hc (fun x hx => hnr x (h.pq x hx).2) (fun x hx => (h.rq x (hRb x hx)).2.2), h.hq.apart hc (fun x hx hb => (h.rq x (hRb x hb)).2.1 hx) (fun x hx => (h.rq x (hRb x hx)).2.2),
    h.ha.kept hc (fun x hx => hnr x (h.aq x (.inl hx)).2.2) (fun x hx => hnr x (h.aq x (.inr hx)).2.2), ⟨qb ++ qv, by rw [List.map_append, hqb, hqv], by rw [List.length_append, List.flatMap_append]; exact ho, fun x hx => ?_, fun x hx => hx⟩,
    fun x hx => ⟨(h.pq x hx).1, hno x (h.hp.pr.lt hx) (h.pq x hx).2⟩, fun x hx => ⟨Nat.lt_of_lt_of_le (h.aq x hx).1 hc.size, (h.aq x hx).2.1, hno x (h.aq x hx).1 (h.aq x hx).2.2⟩, fun x hx => ?_, fun x hx => ⟨ho.lt hx, fun hq => ?_, ?_⟩⟩
  · rcases List.mem_append.1 hx with hx | hx
    · exact ⟨(hqb3 x hx).1.kept hc (fun y hy => hnr y (h.bq y ((hqb3 x hx).2 y hy)).2.2), fun y hy => .inl ((hqb3 x hx).2 y hy)⟩
    · exact ⟨(hqv3 x hx).1.kept hc (fun y hy => hnr y (hP y ((hqv3 x hx).2 y hy)).2.2), fun y hy => .inr ((hqv3 x hx).2 y hy)⟩
  · rcases hx with hx | hx
    · exact ⟨Nat.lt_of_lt_of_le (h.bq x hx).1 hc.size, (h.bq x hx).2.1, hno x (h.bq x hx).1 (h.bq x hx).2.2⟩
    · exact ⟨Nat.lt_of_lt_of_le (hP x hx).1 hc.size, (hP x hx).2.1, hno x (hP x hx).1 (hP x hx).2.2⟩
  · rcases hf x hx with h1 | h1
    · exact (h.rq x (hRb x h1)).2.1 hq
    · have := h.hq.pr.lt hq; omega
  · rcases hf x hx with h1 | h1
    · exact (h.rq x (hRb x h1)).2.2
    · have := h.hq.chg.size; omega
end Go.Proofs.Ytaficleoimfejaa
