
/-
  A region that draws its order, some of whose writing operations lie in no order: 'wp_lanes', walked once for each order of those that write.
-/
import Derived.Test.YtmbdpcamhkdkmaaGreatDoorC
namespace Go.Proofs.YtmbdpcamhkdkmaaGreatDoor
open Go
set_option linter.unusedVariables false

section
variable {P : Program} {ops : Array Oper} {Q : Exit → Act → World → Prop}

theorem idx_ne {a b : Nat} {l : List Nat} (h : b ≠ a) : (b :: l).idxOf a = l.idxOf a + 1 := by rw [List.idxOf_cons, beq_false_of_ne h]; rfl
theorem idx_inj {x y : Nat} : ∀ {l : List Nat}, x ∈ l → l.idxOf x = l.idxOf y → x = y
  | [], h, _ => by cases h
  | b :: l, h, e => by
    by_cases hx : b = x
    · by_cases hy : b = y
      · exact hx.symm.trans hy
      · subst hx
        rw [List.idxOf_cons_self, idx_ne hy] at e
        omega
    · by_cases hy : b = y
      · subst hy
        rw [List.idxOf_cons_self, idx_ne hx] at e
        omega
      · rw [idx_ne hx, idx_ne hy] at e
        exact idx_inj ((List.mem_cons.1 h).resolve_left (Ne.symm hx)) (by omega)
/-- In one order of those that write each waits for the one ahead of it. -/
def extOf : List Nat → List (Nat × Nat)
  | x :: y :: r => (y, x) :: extOf (y :: r)
  | _ => []
theorem extOf_rel {R : Nat → Nat → Prop} : ∀ {σ : List Nat}, σ.Pairwise R → ∀ y ∈ extOf σ, R y.2 y.1
  | [], _, y, h => by cases h
  | [_], _, y, h => by cases h
  | a :: b :: r, hp, y, h => by
    have h1 := List.pairwise_cons.1 hp
    rcases List.mem_cons.1 h with rfl | h
    · exact h1.1 b List.mem_cons_self
    · exact extOf_rel h1.2 y h
def edgesE (ops : Array Oper) (σ : List Nat) (i : Nat) : List Nat := edgesAt ops i ++ ((extOf σ).filter (fun x => x.1 == i)).map (·.2)
def ancE (ops : Array Oper) (σ π : List Nat) : List (List Nat) :=
  let m : List (Nat × List Nat) := π.foldl (fun acc i => (i, ((edgesE ops σ i) ++ (edgesE ops σ i).flatMap fun e => ((acc.find? fun x => x.1 == e).map (·.2)).getD []).eraseDups) :: acc) []
  (List.range ops.size).map fun i => ((m.find? fun x => x.1 == i).map (·.2)).getD []
structure Lane where
  σ : List Nat
  us : List (Nat × List Nat)
  π : List Nat
def Lane.plan (l : Lane) (ones twos : List Nat) (ops : Array Oper) : Plan := ⟨ones, twos, l.us, ancE ops l.σ l.π⟩
def laneOk (p : Plan) (ops : Array Oper) (σ π : List Nat) : Bool :=
  decide (π.length = ops.size) && (List.range ops.size).all (π.contains ·) && π.all (fun i => decide (i < ops.size)) && decide (p.anc.length ≤ ops.size) && p.pairs ops π && decide π.Nodup &&
  π.all (fun i => (edgesE ops σ i).all ((p.t i).contains ·) && (p.t i).all (fun c => (edgesE ops σ i).contains c || (edgesE ops σ i).any fun e => (p.t e).contains c) &&
    (p.u i).all (fun u => u != i && p.k u == 1) && (edgesE ops σ i).all (fun e => decide (e < ops.size)) && !(p.t i).contains i &&
    (p.k i != 1 || (selfAt ops i && π.all fun c => c == i || (p.t i).contains c || offAt ops c i)))
structure LaneFit (p : Plan) (ops : Array Oper) (σ : List Nat) : Prop extends Still0 p ops where
  edge : ∀ i, i < ops.size → ∀ e ∈ edgesE ops σ i, e ∈ p.t i ∧ e < ops.size
  anc : ∀ i, i < ops.size → ∀ c ∈ p.t i, c ∈ edgesE ops σ i ∨ ∃ e ∈ edgesE ops σ i, c ∈ p.t e
  irr : ∀ i, i < ops.size → i ∉ p.t i
theorem mem_edgesE {σ : List Nat} {i e : Nat} : e ∈ edgesE ops σ i ↔ e ∈ edgesAt ops i ∨ (i, e) ∈ extOf σ := by
  unfold edgesE
  simp only [List.mem_append, List.mem_map, List.mem_filter, beq_iff_eq]
  refine or_congr Iff.rfl ⟨?_, fun h => ⟨(i, e), ⟨h, rfl⟩, rfl⟩⟩
  rintro ⟨⟨a, b⟩, ⟨h1, h2⟩, h3⟩
  cases h2; cases h3; exact h1
theorem edge_listed {listed : Array Bool} {i : Nat} {U : List Nat} (hL : ∀ j, j < ops.size → (listed.getD j true = false ↔ j ∈ U)) (hb : ∀ i, i < ops.size → ∀ e ∈ edgesAt ops i, e < ops.size)
    (hi : i ∈ Region.ready .any ops listed) : i < ops.size ∧ i ∈ U ∧ ∀ e ∈ edgesAt ops i, e ∉ U := by
  obtain ⟨h0, o, ho, hall⟩ := mem_ready.1 hi
  have hlt := (Array.getElem?_eq_some_iff.1 ho).1
  refine ⟨hlt, (hL i hlt).1 h0, ?_⟩
  intro e he hc
  have hel := hb i hlt e he
  simp only [edgesAt, ho, List.mem_map, List.mem_filter] at he
  obtain ⟨x, ⟨hx, hb'⟩, rfl⟩ := he
  have h1 := hall x (by simpa using hx) hb'
  have h2 := (hL x.on hel).2 hc
  rw [getD_both h2] at h1
  cases h1
theorem ready_of {listed : Array Bool} {c : Nat} {U : List Nat} (hs : listed.size = ops.size) (hL : ∀ j, j < ops.size → (listed.getD j true = false ↔ j ∈ U)) (hlt : c < ops.size) (hc : c ∈ U)
    (hb : ∀ e ∈ edgesAt ops c, e < ops.size ∧ e ∉ U) : c ∈ Region.ready .any ops listed := by
  obtain ⟨o, ho⟩ : ∃ o, ops[c]? = some o := ⟨ops[c], Array.getElem?_eq_getElem hlt⟩
  refine mem_ready.2 ⟨(hL c hlt).2 hc, o, ho, fun e he hbd => ?_⟩
  obtain ⟨hel, hnot⟩ := hb e.on (by
    simp only [edgesAt, ho, List.mem_map, List.mem_filter]
    exact ⟨e, ⟨by simpa using he, hbd⟩, rfl⟩)
  have hne : listed.getD e.on true ≠ false := fun h => hnot ((hL _ hel).1 h)
  have hin : e.on < listed.size := by rw [hs]; exact hel
  simpa [hin] using hne
theorem listed_next {listed : Array Bool} {i : Nat} {U : List Nat} (hs : listed.size = ops.size) (hn : U.Nodup) (hL : ∀ j, j < ops.size → (listed.getD j true = false ↔ j ∈ U)) :
    ∀ j, j < ops.size → ((listed.setIfInBounds i true).getD j true = false ↔ j ∈ U.erase i) := by
  intro j hj
  by_cases hij : i = j
  · subst hij
    have hin : i < listed.size := by rw [hs]; exact hj
    simp only [List.Nodup.mem_erase_iff hn]
    simp [hin]
  · rw [getD_set_ne true hij, hL j hj, List.mem_erase_of_ne (Ne.symm hij)]
theorem go_step (fuel t : Nat) (listed : Array Bool) (hne : Region.ready .any ops listed ≠ []) :
    ∃ i t', i ∈ Region.ready .any ops listed ∧ Region.linearise.go .any ops (fuel + 1) t listed [] = i :: Region.linearise.go .any ops fuel t' (listed.setIfInBounds i true) [] := by
  have hlt : t % (Region.ready .any ops listed).length < (Region.ready .any ops listed).length := Nat.mod_lt _ (List.length_pos_iff.2 hne)
  refine ⟨(Region.ready .any ops listed)[t % (Region.ready .any ops listed).length], t / (Region.ready .any ops listed).length, List.getElem_mem _, ?_⟩
  simp only [Region.linearise.go]
  change (match (Region.ready .any ops listed)[t % (Region.ready .any ops listed).length]? with
      | some i => Region.linearise.go .any ops fuel (t / (Region.ready .any ops listed).length) (listed.setIfInBounds i true) [i]
      | none => [].reverse) = _
  rw [List.getElem?_eq_getElem hlt]
  simp only []
  rw [linearise_go_acc, List.reverse_singleton, List.singleton_append]
/-- What is drawn: all that was left, each behind what it waits for. -/
theorem lin_facts (hb : ∀ i, i < ops.size → ∀ e ∈ edgesAt ops i, e < ops.size) : ∀ (fuel t : Nat) (listed : Array Bool) (U : List Nat), U.length = fuel → U.Nodup → (∀ i ∈ U, i < ops.size) → U.Pairwise (fun c i => i ∉ edgesAt ops c) → (∀ i ∈ U, i ∉ edgesAt ops i) →
    listed.size = ops.size → (∀ j, j < ops.size → (listed.getD j true = false ↔ j ∈ U)) →
    (∀ j ∈ U, j ∈ Region.linearise.go .any ops fuel t listed []) ∧ (∀ i ∈ U, ∀ e ∈ edgesAt ops i, e ∈ U → (Region.linearise.go .any ops fuel t listed []).idxOf e < (Region.linearise.go .any ops fuel t listed []).idxOf i) := by
  intro fuel
  induction fuel with
  | zero =>
    intro t listed U hl _ _ _ _ _ _
    obtain rfl : U = [] := List.eq_nil_of_length_eq_zero hl
    exact ⟨fun j hj => (by cases hj), fun i hi => (by cases hi)⟩
  | succ fuel ih =>
    intro t listed U hl hn hlt hp hirr hs hL
    have hne : Region.ready .any ops listed ≠ [] := by
      cases U with
      | nil => simp at hl
      | cons c r =>
        have hc := hlt c List.mem_cons_self
        have : c ∈ Region.ready .any ops listed := ready_of hs hL hc List.mem_cons_self fun e he => ⟨hb c hc e he, fun hm => by
          rcases List.mem_cons.1 hm with rfl | h
          · exact hirr e List.mem_cons_self he
          · exact (List.pairwise_cons.1 hp).1 e h he⟩
        intro h0
        rw [h0] at this
        cases this
    obtain ⟨i, t', hi, hgo⟩ := go_step fuel t listed hne
    obtain ⟨hilt, hiU, hie⟩ := edge_listed hL hb hi
    obtain ⟨h1, h2⟩ := ih t' (listed.setIfInBounds i true) (U.erase i) (by rw [List.length_erase_of_mem hiU, hl]; rfl) (hn.erase i) (fun j hj => hlt j (List.mem_of_mem_erase hj)) (hp.sublist List.erase_sublist) (fun j hj => hirr j (List.mem_of_mem_erase hj)) (by simp [hs]) (listed_next hs hn hL)
    rw [hgo]
    refine ⟨fun j hj => ?_, fun j hj e he heU => ?_⟩
    · by_cases hji : j = i
      · exact hji ▸ List.mem_cons_self
      · exact List.mem_cons_of_mem _ (h1 j ((List.mem_erase_of_ne hji).2 hj))
    · by_cases hji : j = i
      · subst hji; exact absurd heU (hie e he)
      · by_cases hei : e = i
        · subst hei
          rw [List.idxOf_cons_self, idx_ne (Ne.symm hji)]
          omega
        · rw [idx_ne (Ne.symm hei), idx_ne (Ne.symm hji)]
          exact Nat.succ_lt_succ (h2 j ((List.mem_erase_of_ne hji).2 hj) e he ((List.mem_erase_of_ne hei).2 heU))
theorem lane_go {p : Plan} {σ : List Nat} (st : LaneFit p ops σ) (hQ : ∀ c a d v w, Q (.panic c) (Act.put a (some d) v) w → Q (.panic c) a w) :
    ∀ (fuel t : Nat) (π : List Nat) (listed : Array Bool) (a : Act) (w : World), Good p ops π → π.length = fuel → listed.size = ops.size →
      (∀ j, j < ops.size → (listed.getD j true = false ↔ j ∈ π)) → (∀ y ∈ extOf σ, y.2 ∈ π → (Region.linearise.go .any ops fuel t listed []).idxOf y.2 < (Region.linearise.go .any ops fuel t listed []).idxOf y.1) →
      wpC P ops Q p.k p.u π a w → wpOps P ops Q (Region.linearise.go .any ops fuel t listed []) a w := by
  have hb : ∀ i, i < ops.size → ∀ e ∈ edgesAt ops i, e < ops.size := fun i hi e he => (st.edge i hi e (mem_edgesE.2 (.inl he))).2
  intro fuel
  induction fuel with
  | zero =>
    intro t π listed a w g hl hs hL _ h
    obtain rfl : π = [] := List.eq_nil_of_length_eq_zero hl
    simpa [Region.linearise.go, wpOps, wpC] using h
  | succ fuel ih =>
    intro t π listed a w g hl hs hL hx h
    have hne : Region.ready .any ops listed ≠ [] := by
      cases π with
      | nil => simp at hl
      | cons c r =>
        have hc := g.lt c List.mem_cons_self
        have : c ∈ Region.ready .any ops listed := ready_of hs hL hc List.mem_cons_self fun e he => ⟨hb c hc e he, fun hm => by
          have hT := (st.edge c hc e (mem_edgesE.2 (.inl he))).1
          rcases List.mem_cons.1 hm with rfl | h
          · exact st.irr e hc hT
          · have := (List.pairwise_cons.1 g.pairs).1 e h
            simp only [Plan.pair, Bool.and_eq_true, Bool.not_eq_true', List.contains_eq_mem, decide_eq_false_iff_not] at this
            exact this.1 hT⟩
        intro h0
        rw [h0] at this
        cases this
    obtain ⟨i, t', hi, hgo⟩ := go_step fuel t listed hne
    obtain ⟨hilt, hip, hie⟩ := edge_listed hL hb hi
    rw [hgo] at hx ⊢
    have hE : ∀ e ∈ edgesE ops σ i, e ∉ π := fun e he hm => by
      rcases mem_edgesE.1 he with h1 | h1
      · exact hie e h1 hm
      · have := hx _ h1 hm
        rw [List.idxOf_cons_self] at this
        exact absurd this (Nat.not_lt_zero _)
    have hiT : ∀ c ∈ p.t i, c ∉ π := fun c hc => by
      rcases st.anc i hilt c hc with h1 | ⟨e, he, hce⟩
      · exact hE c h1
      · exact g.inv e (hE e he) c hce
    have hlen : (π.erase i).length = fuel := by rw [List.length_erase_of_mem hip, hl]; rfl
    have hx' : ∀ y ∈ extOf σ, y.2 ∈ π.erase i → (Region.linearise.go .any ops fuel t' (listed.setIfInBounds i true) []).idxOf y.2 < (Region.linearise.go .any ops fuel t' (listed.setIfInBounds i true) []).idxOf y.1 := by
      intro y hy hm
      have h2 := (List.Nodup.mem_erase_iff g.nodup).1 hm
      have h3 := hx y hy h2.2
      rw [idx_ne (Ne.symm h2.1)] at h3
      by_cases h4 : y.1 = i
      · rw [h4, List.idxOf_cons_self] at h3; omega
      · rw [idx_ne (Ne.symm h4)] at h3
        omega
    have next : ∀ a' w', wpC P ops Q p.k p.u (π.erase i) a' w' → wpOps P ops Q (Region.linearise.go .any ops fuel t' (listed.setIfInBounds i true) []) a' w' := fun a' w' hC =>
      ih t' (π.erase i) _ a' w' (g.erase hiT) hlen (by simp [hs]) (listed_next hs g.nodup hL) hx' hC
    rw [wpOps_cons]
    rcases Nat.lt_or_ge (p.k i) 2 with hk | hk
    · obtain ⟨o, v, ho, hy, hC⟩ := move_R st.toStill0 (by omega) π a w g hip hiT h
      exact hy.op ho (next _ _ hC)
    · exact wpOp_mono (fun a' w' h => next a' w' h.2) (move_W st.toStill0 hQ hk π a w g hip hiT h)
/-- Every order of those that write is one of these. -/
def cov (anc : List (List Nat)) : Nat → List Nat → List (List Nat) → Bool
  | 0, _, _ => false
  | _ + 1, [], ls => ls.any (·.isEmpty)
  | f + 1, r :: rs, ls => (r :: rs).all fun i => (r :: rs).any (fun c => (anc.getD i []).contains c) || cov anc f ((r :: rs).erase i) (ls.filterMap fun σ => match σ with | h :: s => if h == i then some s else none | [] => none)
theorem least (pos : Nat → Nat) : ∀ (l : List Nat), l ≠ [] → ∃ i ∈ l, ∀ j ∈ l, pos i ≤ pos j
  | [], h => absurd rfl h
  | [a], _ => ⟨a, by simp, fun j hj => by simp at hj; subst hj; exact Nat.le_refl _⟩
  | a :: b :: r, _ => by
    obtain ⟨i, hi, hm⟩ := least pos (b :: r) (by simp)
    rcases Nat.le_total (pos a) (pos i) with h | h
    · exact ⟨a, by simp, fun j hj => by
        rcases List.mem_cons.1 hj with rfl | hj
        · exact Nat.le_refl _
        · exact Nat.le_trans h (hm j hj)⟩
    · exact ⟨i, List.mem_cons_of_mem _ hi, fun j hj => by
        rcases List.mem_cons.1 hj with rfl | hj
        · exact h
        · exact hm j hj⟩
theorem cov_sound {anc : List (List Nat)} {pos : Nat → Nat} : ∀ (f : Nat) (rem : List Nat) (ls : List (List Nat)), rem.Nodup → (∀ i ∈ rem, ∀ j ∈ rem, pos i = pos j → i = j) → (∀ i ∈ rem, ∀ c ∈ rem, c ∈ anc.getD i [] → pos c < pos i) → cov anc f rem ls = true →
    ∃ σ ∈ ls, (∀ j ∈ σ, j ∈ rem) ∧ σ.Pairwise (fun a b => pos a < pos b)
  | 0, _, _, _, _, _, h => by cases h
  | f + 1, [], ls, _, _, _, h => by
    obtain ⟨σ, h1, h2⟩ := List.any_eq_true.1 h
    obtain rfl : σ = [] := by simpa using h2
    exact ⟨[], h1, fun j hj => (by cases hj), List.Pairwise.nil⟩
  | f + 1, r :: rs, ls, hn, hj, ha, h => by
    obtain ⟨i, hi, hm⟩ := least pos (r :: rs) (by simp)
    have h1 := List.all_eq_true.1 h i hi
    rcases Bool.or_eq_true_iff.1 h1 with h2 | h2
    · exfalso
      obtain ⟨c, hc, hca⟩ := List.any_eq_true.1 h2
      have := ha i hi c hc (by simpa using hca)
      have := hm c hc
      omega
    · obtain ⟨σ, h3, h4, h5⟩ := cov_sound f _ _ (hn.erase i) (fun x hx y hy => hj x (List.mem_of_mem_erase hx) y (List.mem_of_mem_erase hy)) (fun x hx y hy => ha x (List.mem_of_mem_erase hx) y (List.mem_of_mem_erase hy)) h2
      obtain ⟨σ0, h6, h7⟩ := List.mem_filterMap.1 h3
      cases σ0 with
      | nil => simp at h7
      | cons x s =>
        simp only at h7
        split at h7
        · rename_i hxi
          obtain rfl : x = i := by simpa using hxi
          cases h7
          refine ⟨_, h6, fun j hj => ?_, List.pairwise_cons.2 ⟨fun j hj' => ?_, h5⟩⟩
          · rcases List.mem_cons.1 hj with rfl | hj
            · exact hi
            · exact List.mem_of_mem_erase (h4 j hj)
          · have h8 := (List.Nodup.mem_erase_iff hn).1 (h4 j hj')
            have h9 := hm j h8.2
            rcases Nat.lt_or_eq_of_le h9 with h | h
            · exact h
            · exact absurd (hj _ hi _ h8.2 h).symm h8.1
        · cases h7
def lanesOk (ones twos : List Nat) (ls : List Lane) (ops : Array Oper) : Bool :=
  Region.noSelect ops && ls.all (fun l => laneOk (l.plan ones twos ops) ops l.σ l.π) && cov (ancOf ops) (twos.length + 1) twos (ls.map (·.σ)) && decide twos.Nodup && twos.all (fun i => decide (i < ops.size)) &&
  (List.range ops.size).all (fun i => (edgesAt ops i).all (fun e => decide (e < i)) && ((ancOf ops).getD i []).all (fun c => (edgesAt ops i).contains c || (edgesAt ops i).any fun e => ((ancOf ops).getD e []).contains c))
/-- All orders of those that write, each walked. -/
def wpAll (P : Program) (ops : Array Oper) (Q : Exit → Act → World → Prop) (kind : Nat → Nat) : List Lane → Act → World → Prop
  | [], _, _ => True
  | l :: r, a, w => wpL P ops Q kind (Plan.u ⟨[], [], l.us, []⟩) (l.π.map fun i => (i, ops[i]?)) a w ∧ wpAll P ops Q kind r a w
theorem wpAll_mem {kind : Nat → Nat} {a : Act} {w : World} : ∀ {ls : List Lane}, wpAll P ops Q kind ls a w → ∀ l ∈ ls, wpL P ops Q kind (Plan.u ⟨[], [], l.us, []⟩) (l.π.map fun i => (i, ops[i]?)) a w
  | [], _, l, hl => by cases hl
  | x :: r, h, l, hl => by
    rcases List.mem_cons.1 hl with rfl | hl
    · exact h.1
    · exact wpAll_mem h.2 l hl
theorem lane_fit {p : Plan} {σ π : List Nat} (hsel : Region.noSelect ops = true) (hok : laneOk p ops σ π = true) : LaneFit p ops σ ∧ Good p ops π ∧ π.length = ops.size ∧ ∀ i, i < ops.size → i ∈ π := by
  simp only [laneOk, Bool.and_eq_true, decide_eq_true_eq, List.all_eq_true, List.contains_eq_mem, List.mem_range, Bool.or_eq_true, Bool.not_eq_true', decide_eq_false_iff_not, List.any_eq_true, bne_iff_ne, beq_iff_eq] at hok
  obtain ⟨⟨⟨⟨⟨⟨h2, h3⟩, h4⟩, h8⟩, h5⟩, h6⟩, h7⟩ := hok
  have hmem : ∀ i, i < ops.size → i ∈ π := fun i hi => by simpa using h3 i hi
  refine ⟨⟨⟨Region.noSelect_spec hsel, fun i hi u hu => ?_, fun i hi hk => ?_, fun u hk hu c hc => ?_⟩, fun i hi e he => ?_, fun i hi c hc => ?_, fun i hi => ?_⟩, ⟨pairs_iff.1 h5, h6, fun i hi => h4 i hi, fun u hu c hc => ?_⟩, h2, hmem⟩
  · exact (h7 i (hmem i hi)).1.1.1.2 u hu
  · rcases (h7 i (hmem i hi)).2 with h | h
    · exact absurd hk h
    · exact h.1
  · rcases (h7 u (hmem u hu)).2 with h | h
    · exact absurd hk h
    · rcases h.2 c (hmem c hc) with (h | h) | h
      · exact .inl h
      · exact .inr (.inl h)
      · exact .inr (.inr h)
  · exact ⟨(h7 i (hmem i hi)).1.1.1.1.1 e he, (h7 i (hmem i hi)).1.1.2 e he⟩
  · exact (h7 i (hmem i hi)).1.1.1.1.2 c hc
  · exact (h7 i (hmem i hi)).1.2
  · intro hcp
    rcases Nat.lt_or_ge u ops.size with hu' | hu'
    · exact hu (hmem u hu')
    · have : p.t u = [] := by simp [Plan.t, List.getElem?_eq_none (show p.anc.length ≤ u by omega)]
      rw [this] at hc
      cases hc
theorem wp_lanes {id : Nat} {a : Act} {w : World} (ones twos : List Nat) (ls : List Lane) (hm : P.follows .mixedOrders = true) (hok : lanesOk ones twos ls ops = true)
    (hQ : ∀ c a d v w, Q (.panic c) (Act.put a (some d) v) w → Q (.panic c) a w) (h : wpAll P ops Q (Plan.k ⟨ones, twos, [], []⟩) ls a w.drew) : (Code.region id ops true).wp P Q a w := by
  simp only [lanesOk, Bool.and_eq_true, decide_eq_true_eq, List.all_eq_true, List.mem_range, List.contains_eq_mem, Bool.or_eq_true, List.any_eq_true] at hok
  obtain ⟨⟨⟨⟨⟨h1, h2⟩, h3⟩, h4⟩, h5⟩, h6⟩ := hok
  refine wp_region_draw fun t => ?_
  simp only [Region.schedule, hm, Bool.true_or, if_true]
  have hb : ∀ i, i < ops.size → ∀ e ∈ edgesAt ops i, e < ops.size := fun i hi e he => Nat.lt_trans ((h6 i hi).1 e he) hi
  have hL0 : ∀ j, j < ops.size → ((Array.replicate ops.size false).getD j true = false ↔ j ∈ List.range ops.size) := fun j hj => by simp [hj]
  have hlow : (List.range ops.size).Pairwise (fun c i => i ∉ edgesAt ops c) := by
    refine List.Pairwise.imp_of_mem (R := fun a b => a < b) (fun {a b} ha _ hab he => ?_) List.pairwise_lt_range
    have := (h6 a (List.mem_range.1 ha)).1 b he
    omega
  obtain ⟨hA, hB⟩ := lin_facts hb ops.size t (Array.replicate ops.size false) (List.range ops.size) (by simp) List.nodup_range (fun i hi => List.mem_range.1 hi) hlow (fun i hi he => by
    have := (h6 i (List.mem_range.1 hi)).1 i he
    omega) (by simp) hL0
  obtain ⟨pos, hpos⟩ : ∃ pos : Nat → Nat, ∀ i, (Region.linearise.go .any ops ops.size t (Array.replicate ops.size false) []).idxOf i = pos i := ⟨_, fun _ => rfl⟩
  have hanc : ∀ n i, i ≤ n → i < ops.size → ∀ c ∈ (ancOf ops).getD i [], pos c < pos i := by
    intro n
    induction n with
    | zero =>
      intro i hin hi c hc
      rcases (h6 i hi).2 c hc with h7 | ⟨e, he, _⟩
      · have := (h6 i hi).1 c h7; omega
      · have := (h6 i hi).1 e he; omega
    | succ n ih =>
      intro i hin hi c hc
      have hB' : ∀ e ∈ edgesAt ops i, pos e < pos i := fun e he => by
        have := hB i (List.mem_range.2 hi) e he (List.mem_range.2 (hb i hi e he))
        rw [hpos, hpos] at this
        exact this
      rcases (h6 i hi).2 c hc with h7 | ⟨e, he, hce⟩
      · exact hB' c h7
      · have h8 := (h6 i hi).1 e he
        exact Nat.lt_trans (ih e (by omega) (by omega) c hce) (hB' e he)
  obtain ⟨σ, hσ, hσr, hσp⟩ := cov_sound (pos := pos) _ _ _ h4 (fun i hi j hj hij => by
    rw [← hpos, ← hpos] at hij
    exact idx_inj (hA i (List.mem_range.2 (h5 i hi))) hij) (fun i hi c _ hca => hanc i i (Nat.le_refl _) (h5 i hi) c hca) h3
  obtain ⟨l, hl, rfl⟩ := List.mem_map.1 hσ
  obtain ⟨st, g, hlen, hmem⟩ := lane_fit h1 (h2 l hl)
  refine lane_go st hQ ops.size t l.π _ a _ g hlen (by simp) (fun j hj => by simp [hj, hmem j hj]) (fun y hy _ => ?_) (wpC_of_wpL _ _ _ (wpAll_mem h l hl))
  rw [hpos, hpos]
  exact extOf_rel hσp y hy
end
end Go.Proofs.YtmbdpcamhkdkmaaGreatDoor
