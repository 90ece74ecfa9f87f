
/-
  A region that draws its order, brought back to one order: 'wp_canon'. Words of the prover's own.
-/
import Derived.Test.YtmekakecdgblaaaProg
import Derived.OrdersHeld
import Derived.StillTail
import Derived.Tactics
import Derived.KernelRfl
namespace Go.Proofs.Ytmekakecdgblaaa
open Go

section
variable {P : Program} {ops : Array Oper} {Q : Exit → Act → World → Prop}

/-- What stands in an operation's temporary (if there is such a temporary). -/
def Holds (a : Act) (dst : Option Tmp) (v : Value) : Prop := ∀ d, dst = some d → d < a.tmps.size → a.tmps[d]? = some v

theorem put_of_holds {a : Act} {dst : Option Tmp} {v v' : Value} (h : Holds (a.put dst v') dst v) : a.put dst v = a.put dst v' := by
  cases dst with
  | none => rfl
  | some d =>
    by_cases hd : d < a.tmps.size
    · have := h d rfl (by simpa [Act.put] using hd)
      simp [Act.put, hd] at this
      rw [this]
    · simp [Act.put, Array.setIfInBounds, hd]

/-- Operation u, run once more, tells what stands in its temporary, and does nothing else. -/
def ReRun (P : Program) (ops : Array Oper) (u : Nat) (a : Act) (w : World) : Prop :=
  ∀ o, ops[u]? = some o → Region.wanted o (yielded ops a.tmps) = true → ∃ v, (execOp a.eval o).run P w = .ok (.value v) w ∧ Holds a o.dst v

/-- The operations in one order: kind 0: the same in whatever world; kind 1: it only reads; else: whatever it does, and behind it those of 'us' run again to what they told. -/
def wpC (P : Program) (ops : Array Oper) (Q : Exit → Act → World → Prop) (kind : Nat → Nat) (us : Nat → List Nat) : List Nat → Act → World → Prop
  | [], a, w => Q .normal a w
  | i :: r, a, w =>
    match kind i with
    | 0 => ∃ o v, ops[i]? = some o ∧ Yields P ops o v a ∧ wpC P ops Q kind us r (a.put o.dst v) w
    | 1 => ∃ o v, ops[i]? = some o ∧ YieldsIf P ops (· = w) o v a ∧ wpC P ops Q kind us r (a.put o.dst v) w
    | _ => wpOp P ops Q i (fun a' w' => (∀ u ∈ us i, u ∉ r → ReRun P ops u a' w') ∧ wpC P ops Q kind us r a' w') a w

def apartAt (ops : Array Oper) (c i : Nat) : Bool :=
  match ops[c]?, ops[i]? with
  | some x, some y => x.apart ops y
  | _, _ => false
/-- What c writes, u neither reads nor writes. -/
def offAt (ops : Array Oper) (c u : Nat) : Bool :=
  match ops[c]?, ops[u]? with
  | some x, some y => (match x.dst with | some d => !(y.looksAt ops).contains d && y.dst != some d | none => true)
  | _, _ => false
def selfAt (ops : Array Oper) (u : Nat) : Bool :=
  match ops[u]? with
  | some x => (match x.dst with | some d => !(x.looksAt ops).contains d | none => true)
  | none => false
def edgesAt (ops : Array Oper) (i : Nat) : List Nat :=
  match ops[i]? with
  | some o => (o.after.toList.filter (Region.binds .any ·)).map (·.on)
  | none => []

structure Plan where
  ones : List Nat
  twos : List Nat
  us : List (Nat × List Nat)
  anc : List (List Nat)

def Plan.k (p : Plan) (i : Nat) : Nat := if p.twos.contains i then 2 else if p.ones.contains i then 1 else 0
def Plan.t (p : Plan) (i : Nat) : List Nat := p.anc.getD i []
def Plan.u (p : Plan) (i : Nat) : List Nat := ((p.us.find? fun x => x.1 == i).map (·.2)).getD []
/-- Of each operation all that it waits for. -/
def ancOf (ops : Array Oper) : List (List Nat) :=
  (List.range ops.size).foldl (fun acc i => acc ++ [((edgesAt ops i) ++ (edgesAt ops i).flatMap fun e => acc.getD e []).eraseDups]) []

def Plan.pair (p : Plan) (ops : Array Oper) (c i : Nat) : Bool :=
  !(p.t c).contains i && ((p.t i).contains c || (decide (p.k c ≤ 1) && apartAt ops c i && (p.k c != 1 || decide (p.k i ≤ 1) || (p.u i).contains c)))
def Plan.pairs (p : Plan) (ops : Array Oper) : List Nat → Bool
  | [] => true
  | c :: r => r.all (p.pair ops c) && p.pairs ops r
def Plan.ok (p : Plan) (ops : Array Oper) (π : List Nat) : Bool :=
  Region.noSelect ops && decide (π.length = ops.size) && (List.range ops.size).all (π.contains ·) && π.all (fun i => decide (i < ops.size)) && decide (p.anc.length ≤ ops.size) && p.pairs ops π && decide π.Nodup &&
  π.all (fun i => (edgesAt ops i).all ((p.t i).contains ·) && (p.t i).all (fun c => (edgesAt ops i).contains c || (edgesAt ops i).any fun e => (p.t e).contains c) &&
    (p.u i).all (fun u => u != i && p.k u == 1) && (edgesAt ops i).all (fun e => decide (e < ops.size)) && !(p.t i).contains i &&
    (p.k i != 1 || (selfAt ops i && π.all fun c => c == i || (p.t i).contains c || offAt ops c i)))

theorem pairs_iff {p : Plan} : ∀ {π : List Nat}, p.pairs ops π = true ↔ π.Pairwise (fun c i => p.pair ops c i = true)
  | [] => by simp [Plan.pairs]
  | c :: r => by simp [Plan.pairs, pairs_iff (π := r), List.pairwise_cons]

structure Still0 (p : Plan) (ops : Array Oper) : Prop where
  sel : ∀ (j : Nat) (o : Oper) cs b, ops[j]? = some o → o.op ≠ .select cs b
  us : ∀ i, i < ops.size → ∀ u ∈ p.u i, u ≠ i ∧ p.k u = 1
  self : ∀ i, i < ops.size → p.k i = 1 → selfAt ops i = true
  off : ∀ u, p.k u = 1 → u < ops.size → ∀ c, c < ops.size → c = u ∨ c ∈ p.t u ∨ offAt ops c u = true
structure Still (p : Plan) (ops : Array Oper) : Prop extends Still0 p ops where
  edge : ∀ i, i < ops.size → ∀ e ∈ edgesAt ops i, e ∈ p.t i ∧ e < ops.size
  anc : ∀ i, i < ops.size → ∀ c ∈ p.t i, c ∈ edgesAt ops i ∨ ∃ e ∈ edgesAt ops i, c ∈ p.t e
  irr : ∀ i, i < ops.size → i ∉ p.t i

/-- 'π' is what is left to be done. -/
structure Good (p : Plan) (ops : Array Oper) (π : List Nat) : Prop where
  pairs : π.Pairwise (fun c i => p.pair ops c i = true)
  nodup : π.Nodup
  lt : ∀ i ∈ π, i < ops.size
  inv : ∀ u, u ∉ π → ∀ c ∈ p.t u, c ∉ π

theorem Good.tail {p : Plan} {c : Nat} {r : List Nat} (g : Good p ops (c :: r)) : Good p ops r := by
  have hp := List.pairwise_cons.1 g.pairs
  have hn := List.nodup_cons.1 g.nodup
  refine ⟨hp.2, hn.2, fun i hi => g.lt i (List.mem_cons_of_mem _ hi), fun u hu x hx hxr => ?_⟩
  by_cases huc : u = c
  · subst huc
    have := hp.1 x hxr
    simp only [Plan.pair, Bool.and_eq_true, Bool.not_eq_true', List.contains_eq_mem, decide_eq_false_iff_not] at this
    exact this.1 hx
  · exact g.inv u (by simp [huc, hu]) x hx (List.mem_cons_of_mem _ hxr)

theorem Good.erase {p : Plan} {π : List Nat} {i : Nat} (g : Good p ops π) (hi : ∀ c ∈ p.t i, c ∉ π) : Good p ops (π.erase i) := by
  refine ⟨g.pairs.sublist List.erase_sublist, g.nodup.erase i, fun j hj => g.lt j (List.mem_of_mem_erase hj), fun u hu c hc hcr => ?_⟩
  have hcp := List.mem_of_mem_erase hcr
  by_cases hui : u = i
  · subst hui; exact hi c hc hcp
  · exact g.inv u (fun h => hu ((List.mem_erase_of_ne hui).2 h)) c hc hcp

theorem Good.head {p : Plan} {c i : Nat} {r : List Nat} (g : Good p ops (c :: r)) (hi : i ∈ r) (hc : c ∉ p.t i) :
    p.k c ≤ 1 ∧ apartAt ops c i = true ∧ (p.k c = 1 → 2 ≤ p.k i → c ∈ p.u i) := by
  have := (List.pairwise_cons.1 g.pairs).1 i hi
  simp only [Plan.pair, Bool.and_eq_true, Bool.not_eq_true', List.contains_eq_mem, decide_eq_false_iff_not, Bool.or_eq_true, decide_eq_true_eq, hc, false_or, bne_iff_ne] at this
  refine ⟨this.2.1.1, this.2.1.2, fun h1 h2 => ?_⟩
  rcases this.2.2 with (h | h) | h
  · exact absurd h1 h
  · omega
  · exact h

def YK (P : Program) (ops : Array Oper) (k : Nat) (o : Oper) (v : Value) (a : Act) (w : World) : Prop :=
  if k = 0 then Yields P ops o v a else YieldsIf P ops (· = w) o v a

theorem YK.same {k : Nat} {o : Oper} {v : Value} {a a' : Act} {w : World} (h : YK P ops k o v a w) (he : execOp a'.eval o = execOp a.eval o)
    (hw : Region.wanted o (yielded ops a'.tmps) = Region.wanted o (yielded ops a.tmps)) : YK P ops k o v a' w := by
  unfold YK at *
  split at h
  · rename_i hk; rw [if_pos hk]; exact h.of_same he hw
  · rename_i hk; rw [if_neg hk]; exact h.of_same he hw

theorem YK.op {k i : Nat} {o : Oper} {v : Value} {a : Act} {w : World} (h : YK P ops k o v a w) (hi : ops[i]? = some o) {K : Act → World → Prop} (hK : K (a.put o.dst v) w) : wpOp P ops Q i K a w := by
  unfold YK at h
  split at h
  · exact h.wpOp hi hK
  · exact h.wpOp hi rfl hK

theorem wpC_R {kind : Nat → Nat} {us : Nat → List Nat} {i : Nat} {r : List Nat} {a : Act} {w : World} (hk : kind i ≤ 1) :
    wpC P ops Q kind us (i :: r) a w ↔ ∃ o v, ops[i]? = some o ∧ YK P ops (kind i) o v a w ∧ wpC P ops Q kind us r (a.put o.dst v) w := by
  rcases (show kind i = 0 ∨ kind i = 1 by omega) with h | h <;> simp [wpC, h, YK]
theorem wpC_W {kind : Nat → Nat} {us : Nat → List Nat} {i : Nat} {r : List Nat} {a : Act} {w : World} (hk : 2 ≤ kind i) :
    wpC P ops Q kind us (i :: r) a w ↔ wpOp P ops Q i (fun a' w' => (∀ u ∈ us i, u ∉ r → ReRun P ops u a' w') ∧ wpC P ops Q kind us r a' w') a w := by
  obtain ⟨m, hm⟩ : ∃ m, kind i = m + 2 := ⟨kind i - 2, by omega⟩
  simp [wpC, hm]

theorem apart_at {c i : Nat} {x y : Oper} (h : apartAt ops c i = true) (hc : ops[c]? = some x) (hi : ops[i]? = some y) : x.apart ops y = true := by
  simpa [apartAt, hc, hi] using h

theorem move_R {p : Plan} (st : Still0 p ops) {i : Nat} (hk : p.k i ≤ 1) : ∀ (π : List Nat) (a : Act) (w : World), Good p ops π → i ∈ π → (∀ c ∈ p.t i, c ∉ π) →
    wpC P ops Q p.k p.u π a w → ∃ o v, ops[i]? = some o ∧ YK P ops (p.k i) o v a w ∧ wpC P ops Q p.k p.u (π.erase i) (a.put o.dst v) w
  | [], _, _, _, hi, _, _ => by cases hi
  | c :: r, a, w, g, hi, ht, h => by
    by_cases hci : c = i
    · subst hci
      rw [List.erase_cons_head]
      exact (wpC_R hk).1 h
    · have hir : i ∈ r := (List.mem_cons.1 hi).resolve_left (Ne.symm hci)
      have hcT : c ∉ p.t i := fun h => ht c h List.mem_cons_self
      obtain ⟨hkc, hap, _⟩ := g.head hir hcT
      obtain ⟨oc, vc, hoc, hyc, hr⟩ := (wpC_R hkc).1 h
      obtain ⟨oi, vi, hoi, hyi, hri⟩ := move_R st hk r _ w g.tail hir (fun x hx hxr => ht x hx (List.mem_cons_of_mem _ hxr)) hr
      obtain ⟨a1, a2, a3⟩ := Oper.apart_spec (apart_at hap hoc hoi)
      refine ⟨oi, vi, hoi, hyi.same (execOp_put oi (fun cs b => st.sel i oi cs b hoi) a oc.dst vc a1).symm (wanted_put oi a oc.dst vc a1).symm, ?_⟩
      rw [List.erase_cons_tail (by simpa using hci)]
      refine (wpC_R hkc).2 ⟨oc, vc, hoc, hyc.same (execOp_put oc (fun cs b => st.sel c oc cs b hoc) a oi.dst vi a3) (wanted_put oc a oi.dst vi a3), ?_⟩
      rw [← Act.put_comm a vc vi a2]
      exact hri

theorem rerun_off {c u : Nat} {x : Oper} {v : Value} {a : Act} {w : World} (sel : ∀ (j : Nat) (o : Oper) cs b, ops[j]? = some o → o.op ≠ .select cs b)
    (hc : ops[c]? = some x) (hoff : u < ops.size → offAt ops c u = true) (h : ReRun P ops u (a.put x.dst v) w) : ReRun P ops u a w := by
  intro o ho hw
  have hu : u < ops.size := (Array.getElem?_eq_some_iff.1 ho).1
  have hoff := hoff hu
  have a1 : ∀ d, x.dst = some d → d ∉ o.looksAt ops := fun d hd => by
    simp [offAt, hc, ho, hd] at hoff; exact hoff.1
  have a2 : ∀ d, x.dst = some d → o.dst ≠ some d := fun d hd => by
    simp [offAt, hc, ho, hd] at hoff; exact hoff.2
  obtain ⟨v', hr, hh⟩ := h o ho (by rw [wanted_put o a x.dst v a1]; exact hw)
  rw [execOp_put o (fun cs b => sel u o cs b ho) a x.dst v a1] at hr
  refine ⟨v', hr, fun d hd hlt => ?_⟩
  have := hh d hd (by cases hx : x.dst <;> simp [Act.put, hlt])
  cases hx : x.dst with
  | none => simpa [Act.put, hx] using this
  | some e =>
    have hne : e ≠ d := fun he => a2 e hx (he ▸ hd)
    simpa [Act.put, hx, Array.getElem?_setIfInBounds_ne hne] using this

theorem move_W {p : Plan} (st : Still0 p ops) (hQ : ∀ c a d v w, Q (.panic c) (Act.put a (some d) v) w → Q (.panic c) a w) {i : Nat} (hk : 2 ≤ p.k i) :
    ∀ (π : List Nat) (a : Act) (w : World), Good p ops π → i ∈ π → (∀ c ∈ p.t i, c ∉ π) → wpC P ops Q p.k p.u π a w →
      wpOp P ops Q i (fun a' w' => (∀ u ∈ p.u i, u ∉ π.erase i → ReRun P ops u a' w') ∧ wpC P ops Q p.k p.u (π.erase i) a' w') a w
  | [], _, _, _, hi, _, _ => by cases hi
  | c :: r, a, w, g, hi, ht, h => by
    have hQ' : ∀ c a d v w, Q (.panic c) (Act.put a d v) w → Q (.panic c) a w := fun c a d v w h => by
      cases d with
      | none => exact h
      | some d => exact hQ c a d v w h
    have hilt := g.lt i hi
    by_cases hci : c = i
    · subst hci
      rw [List.erase_cons_head]
      exact (wpC_W hk).1 h
    · have hir : i ∈ r := (List.mem_cons.1 hi).resolve_left (Ne.symm hci)
      have hcT : c ∉ p.t i := fun h => ht c h List.mem_cons_self
      obtain ⟨hkc, hap, hus⟩ := g.head hir hcT
      obtain ⟨oc, vc, hoc, hyc, hr⟩ := (wpC_R hkc).1 h
      have ih := move_W st hQ hk r _ w g.tail hir (fun x hx hxr => ht x hx (List.mem_cons_of_mem _ hxr)) hr
      obtain ⟨oi, hoi⟩ : ∃ o, ops[i]? = some o := ⟨ops[i], Array.getElem?_eq_getElem hilt⟩
      have hclt := g.lt c List.mem_cons_self
      have hcr : c ∉ r := (List.nodup_cons.1 g.nodup).1
      rw [List.erase_cons_tail (by simpa using hci)]
      have keep : ∀ a' w', (∀ u ∈ p.u i, u ∉ r.erase i → ReRun P ops u (a'.put oc.dst vc) w') → ∀ u ∈ p.u i, u ∉ c :: r.erase i → ReRun P ops u a' w' := by
        intro a' w' hk u hu hun
        simp only [List.mem_cons, not_or] at hun
        obtain ⟨hui, hku⟩ := st.us i hilt u hu
        have hur : u ∉ c :: r := by
          simp only [List.mem_cons, not_or]
          exact ⟨hun.1, fun h => hun.2 ((List.mem_erase_of_ne hui).2 h)⟩
        refine rerun_off st.sel hoc (fun hlt => ?_) (hk u hu hun.2)
        rcases st.off u hku hlt c hclt with h | h | h
        · exact absurd h.symm hun.1
        · exact absurd List.mem_cons_self (g.inv u hur c h)
        · exact h
      by_cases hk0 : p.k c = 0
      · have hyc' : Yields P ops oc vc a := by simpa [YK, hk0] using hyc
        refine wpOp_mono ?_ (wpOp_putIf (S := fun _ => True) hoi (apart_at hap hoc hoi) (fun cs b => st.sel c oc cs b hoc) (fun cs b => st.sel i oi cs b hoi) (fun x a w => hQ' x a _ _ w) hyc'.yieldsIf ih)
        rintro a' w' ⟨hy, hkp, hC⟩
        refine ⟨keep a' w' hkp, (wpC_R hkc).2 ⟨oc, vc, hoc, ?_, hC⟩⟩
        simp only [YK, hk0, if_true]
        exact hy.imp (fun ⟨h1, h2⟩ => ⟨h1, fun w => h2 w trivial⟩) id
      · have hk1 : p.k c = 1 := by omega
        have hyc' : YieldsIf P ops (· = w) oc vc a := by simpa [YK, hk1] using hyc
        refine wpOp_mono ?_ (wpOp_putIf (S := (· = w)) hoi (apart_at hap hoc hoi) (fun cs b => st.sel c oc cs b hoc) (fun cs b => st.sel i oi cs b hoi) (fun x a w => hQ' x a _ _ w) hyc' ih)
        rintro a' w' ⟨hy, hkp, hC⟩
        refine ⟨keep a' w' hkp, ?_⟩
        have hself : ∀ d, oc.dst = some d → d ∉ oc.looksAt ops := fun d hd => by
          have := st.self c hclt hk1
          simpa [selfAt, hoc, hd] using this
        rcases hy with ⟨hw, _⟩ | ⟨hw, hv⟩
        · obtain ⟨v, hrun, hh⟩ := hkp c (hus hk1 hk) (fun h => hcr (List.mem_of_mem_erase h)) oc hoc (by rw [wanted_put oc a' oc.dst vc hself]; exact hw)
          rw [execOp_put oc (fun cs b => st.sel c oc cs b hoc) a' oc.dst vc hself] at hrun
          refine (wpC_R hkc).2 ⟨oc, v, hoc, ?_, by rw [put_of_holds hh]; exact hC⟩
          simp only [YK, hk1]
          exact .inl ⟨hw, fun w2 h => h ▸ hrun⟩
        · refine (wpC_R hkc).2 ⟨oc, vc, hoc, ?_, hC⟩
          simp only [YK, hk1]
          exact .inr ⟨hw, hv⟩

theorem canon_any {p : Plan} (st : Still p ops) (hQ : ∀ c a d v w, Q (.panic c) (Act.put a (some d) v) w → Q (.panic c) a w) :
    ∀ (fuel : Nat) (π : List Nat) (listed : Array Bool) (a : Act) (w : World), Good p ops π → π.length = fuel → listed.size = ops.size →
      (∀ j, j < ops.size → (listed.getD j true = false ↔ j ∈ π)) → wpC P ops Q p.k p.u π a w → wpAny P .any ops Q fuel listed a w := by
  intro fuel
  induction fuel with
  | zero =>
    intro π listed a w g hl hs hL h
    obtain rfl : π = [] := List.eq_nil_of_length_eq_zero hl
    refine ⟨?_, h⟩
    rw [List.eq_nil_iff_forall_not_mem]
    intro j hj
    obtain ⟨h0, o, ho, _⟩ := mem_ready.1 hj
    have := (hL j (Array.getElem?_eq_some_iff.1 ho).1).1 h0
    cases this
  | succ fuel ih =>
    intro π listed a w g hl hs hL h
    have rdy : ∀ i, i ∈ Region.ready .any ops listed → i ∈ π ∧ ∀ c ∈ p.t i, c ∉ π := by
      intro i hi
      obtain ⟨h0, o, ho, hall⟩ := mem_ready.1 hi
      have hlt := (Array.getElem?_eq_some_iff.1 ho).1
      have hdone : ∀ e ∈ edgesAt ops i, e ∉ π := by
        intro e he
        have he' := he
        simp only [edgesAt, ho, List.mem_map, List.mem_filter] at he'
        obtain ⟨x, ⟨hx, hb⟩, rfl⟩ := he'
        have h1 := hall x (by simpa using hx) hb
        have hxl := (st.edge i hlt _ he).2
        intro hc
        have h2 := (hL x.on hxl).2 hc
        rw [getD_both h2] at h1
        cases h1
      refine ⟨(hL i hlt).1 h0, fun c hc => ?_⟩
      rcases st.anc i hlt c hc with h | ⟨e, he, hce⟩
      · exact hdone c h
      · exact g.inv e (hdone e he) c hce
    refine ⟨fun h0 => ?_, fun i hi => ?_⟩
    · exfalso
      cases π with
      | nil => simp at hl
      | cons c r =>
        have hlt := g.lt c List.mem_cons_self
        obtain ⟨o, ho⟩ : ∃ o, ops[c]? = some o := ⟨ops[c], Array.getElem?_eq_getElem hlt⟩
        have : c ∈ Region.ready .any ops listed := by
          refine mem_ready.2 ⟨(hL c hlt).2 List.mem_cons_self, o, ho, fun e he hb => ?_⟩
          have hed : e.on ∈ edgesAt ops c := by
            simp only [edgesAt, ho, List.mem_map, List.mem_filter]
            exact ⟨e, ⟨by simpa using he, hb⟩, rfl⟩
          obtain ⟨hT, hel⟩ := st.edge c hlt _ hed
          have hnot : e.on ∉ c :: r := by
            intro hm
            rcases List.mem_cons.1 hm with h | h
            · exact st.irr c hlt (h ▸ hT)
            · have := (List.pairwise_cons.1 g.pairs).1 _ h
              simp only [Plan.pair, Bool.and_eq_true, Bool.not_eq_true', List.contains_eq_mem, decide_eq_false_iff_not] at this
              exact this.1 hT
          have hne : listed.getD e.on true ≠ false := fun h => hnot ((hL _ hel).1 h)
          have hin : e.on < listed.size := by rw [hs]; exact hel
          simpa [hin] using hne
        rw [h0] at this
        cases this
    · obtain ⟨hip, hiT⟩ := rdy i hi
      have hilt := g.lt i hip
      have hL' : ∀ j, j < ops.size → ((listed.setIfInBounds i true).getD j true = false ↔ j ∈ π.erase i) := by
        intro j hj
        by_cases hij : i = j
        · subst hij
          have hin : i < listed.size := by rw [hs]; exact hj
          simp only [List.Nodup.mem_erase_iff g.nodup]
          simp [hin]
        · rw [getD_set_ne true hij, hL j hj, List.mem_erase_of_ne (Ne.symm hij)]
      have hlen : (π.erase i).length = fuel := by rw [List.length_erase_of_mem hip, hl]; rfl
      have next : ∀ a' w', wpC P ops Q p.k p.u (π.erase i) a' w' → wpAny P .any ops Q fuel (listed.setIfInBounds i true) a' w' := fun a' w' hC =>
        ih (π.erase i) _ a' w' (g.erase hiT) hlen (by simp [hs]) hL' hC
      rcases Nat.lt_or_ge (p.k i) 2 with hk | hk
      · obtain ⟨o, v, ho, hy, hC⟩ := move_R st.toStill0 (by omega) π a w g hip hiT h
        exact hy.op ho (next _ _ hC)
      · exact wpOp_mono (fun a' w' h => next a' w' h.2) (move_W st.toStill0 hQ hk π a w g hip hiT h)

/-- A region that draws its order, walked in one order. -/
theorem wp_canon {id : Nat} {a : Act} {w : World} (p : Plan) (π : List Nat) (hm : P.follows .mixedOrders = true) (hok : p.ok ops π = true)
    (hQ : ∀ c a d v w, Q (.panic c) (Act.put a (some d) v) w → Q (.panic c) a w) (h : wpC P ops Q p.k p.u π a w.drew) : (Code.region id ops true).wp P Q a w := by
  simp only [Plan.ok, Bool.and_eq_true, decide_eq_true_eq, List.all_eq_true, List.contains_eq_mem, List.mem_range, Bool.or_eq_true, Bool.not_eq_true', decide_eq_false_iff_not, List.any_eq_true, bne_iff_ne, beq_iff_eq] at hok
  obtain ⟨⟨⟨⟨⟨⟨⟨h1, h2⟩, h3⟩, h4⟩, h8⟩, h5⟩, h6⟩, h7⟩ := hok
  have hmem : ∀ i, i < ops.size → i ∈ π := fun i hi => by simpa using h3 i hi
  have st : Still p ops := by
    refine ⟨⟨Region.noSelect_spec h1, fun i hi u hu => ?_, fun i hi hk => ?_, fun u hk hu c hc => ?_⟩, fun i hi e he => ?_, fun i hi c hc => ?_, fun i hi => ?_⟩
    · exact (h7 i (hmem i hi)).1.1.1.2 u hu
    · rcases (h7 i (hmem i hi)).2 with h | h
      · exact absurd hk h
      · exact h.1
    · rcases (h7 u (hmem u hu)).2 with h | h
      · exact absurd hk h
      · rcases h.2 c (hmem c hc) with (h | h) | h
        · exact .inl h
        · exact .inr (.inl h)
        · exact .inr (.inr h)
    · exact ⟨(h7 i (hmem i hi)).1.1.1.1.1 e he, (h7 i (hmem i hi)).1.1.2 e he⟩
    · exact (h7 i (hmem i hi)).1.1.1.1.2 c hc
    · exact (h7 i (hmem i hi)).1.2
  refine wp_region_any hm (canon_any st hQ ops.size π _ a _ ⟨pairs_iff.1 h5, h6, fun i hi => h4 i hi, fun u hu c hc => ?_⟩ h2 (by simp) (fun j hj => ?_) h)
  · intro hcp
    rcases Nat.lt_or_ge u ops.size with hu' | hu'
    · exact hu (hmem u hu')
    · have : p.t u = [] := by simp [Plan.t, List.getElem?_eq_none (show p.anc.length ≤ u by omega)]
      rw [this] at hc
      cases hc
  · simp [hj, hmem j hj]

/-- 'wpC', the operations written out. -/
def wpL (P : Program) (ops : Array Oper) (Q : Exit → Act → World → Prop) (kind : Nat → Nat) (us : Nat → List Nat) : List (Nat × Option Oper) → Act → World → Prop
  | [], a, w => Q .normal a w
  | (_, none) :: _, _, _ => False
  | (i, some o) :: r, a, w =>
    match kind i with
    | 0 => ∃ v, Yields P ops o v a ∧ wpL P ops Q kind us r (a.put o.dst v) w
    | 1 => ∃ v, YieldsIf P ops (· = w) o v a ∧ wpL P ops Q kind us r (a.put o.dst v) w
    | _ => if Region.wanted o (yielded ops a.tmps) = true then o.wp P a w (fun a' w' => (∀ u ∈ us i, ReRun P ops u a' w') ∧ wpL P ops Q kind us r a' w') Q
        else (∀ u ∈ us i, ReRun P ops u (a.put o.dst undef) w) ∧ wpL P ops Q kind us r (a.put o.dst undef) w

theorem wpC_of_wpL {kind : Nat → Nat} {us : Nat → List Nat} : ∀ (π : List Nat) (a : Act) (w : World), wpL P ops Q kind us (π.map fun i => (i, ops[i]?)) a w → wpC P ops Q kind us π a w
  | [], _, _, h => h
  | i :: r, a, w, h => by
    simp only [List.map_cons] at h
    cases ho : ops[i]? with
    | none => rw [ho] at h; exact h.elim
    | some o =>
      rw [ho] at h
      simp only [wpL] at h
      rcases (show kind i = 0 ∨ kind i = 1 ∨ 2 ≤ kind i by omega) with hk | hk | hk
      · rw [hk] at h
        obtain ⟨v, hy, h⟩ := h
        exact (wpC_R (by omega)).2 ⟨o, v, ho, by simpa [YK, hk] using hy, wpC_of_wpL r _ _ h⟩
      · rw [hk] at h
        obtain ⟨v, hy, h⟩ := h
        exact (wpC_R (by omega)).2 ⟨o, v, ho, by simpa [YK, hk] using hy, wpC_of_wpL r _ _ h⟩
      · obtain ⟨m, hm⟩ : ∃ m, kind i = m + 2 := ⟨kind i - 2, by omega⟩
        rw [hm] at h
        refine (wpC_W hk).2 ?_
        unfold wpOp
        simp only [ho]
        by_cases hw : Region.wanted o (yielded ops a.tmps) = true
        · rw [if_pos hw] at h ⊢
          exact .inl (Oper.wp_mono (fun a' w' h => ⟨fun u hu _ => h.1 u hu, wpC_of_wpL r _ _ h.2⟩) h)
        · rw [if_neg hw] at h ⊢
          exact ⟨fun u hu _ => h.1 u hu, wpC_of_wpL r _ _ h.2⟩

/-- The same, by three lists: those that only read, those that do more, and which of the first run again behind which of the second. -/
theorem wp_one {id : Nat} {a : Act} {w : World} (ones twos : List Nat) (us : List (Nat × List Nat)) (π : List Nat) (hm : P.follows .mixedOrders = true) (hok : Plan.ok ⟨ones, twos, us, ancOf ops⟩ ops π = true)
    (hQ : ∀ c a d v w, Q (.panic c) (Act.put a (some d) v) w → Q (.panic c) a w) (h : wpL P ops Q (Plan.k ⟨ones, twos, [], []⟩) (Plan.u ⟨[], [], us, []⟩) (π.map fun i => (i, ops[i]?)) a w.drew) : (Code.region id ops true).wp P Q a w :=
  wp_canon ⟨ones, twos, us, ancOf ops⟩ π hm hok hQ (wpC_of_wpL _ _ _ h)
section
variable {kind : Nat → Nat} {us : Nat → List Nat} {i : Nat} {r : List (Nat × Option Oper)} {a : Act} {w : World} {o : Oper} {v : Value}
theorem can0 (hk : kind i = 0) (hw : Region.wanted o (yielded ops a.tmps) = true) (hy : ∀ w, (execOp a.eval o).run P w = .ok (.value v) w) (h : wpL P ops Q kind us r (a.put o.dst v) w) : wpL P ops Q kind us ((i, some o) :: r) a w := by
  unfold wpL; rw [hk]; exact ⟨v, .inl ⟨hw, hy⟩, h⟩
theorem can1 (hk : kind i = 1) (hw : Region.wanted o (yielded ops a.tmps) = true) (hy : (execOp a.eval o).run P w = .ok (.value v) w) (h : wpL P ops Q kind us r (a.put o.dst v) w) : wpL P ops Q kind us ((i, some o) :: r) a w := by
  unfold wpL; rw [hk]; exact ⟨v, .inl ⟨hw, fun w2 e => e ▸ hy⟩, h⟩
/-- a guarded operation that isn't come to -/
theorem canN (hk : kind i = 0) (hw : Region.wanted o (yielded ops a.tmps) = false) (h : wpL P ops Q kind us r (a.put o.dst undef) w) : wpL P ops Q kind us ((i, some o) :: r) a w := by
  unfold wpL; rw [hk]; exact ⟨undef, .inr ⟨hw, rfl⟩, h⟩
theorem canN1 (hk : kind i = 1) (hw : Region.wanted o (yielded ops a.tmps) = false) (h : wpL P ops Q kind us r (a.put o.dst undef) w) : wpL P ops Q kind us ((i, some o) :: r) a w := by
  unfold wpL; rw [hk]; exact ⟨undef, .inr ⟨hw, rfl⟩, h⟩
theorem canW (hk : kind i = 2) (l : List Nat) (hl : us i = l)
    (h : ∀ K : Act → World → Prop, (∀ a w, (∀ u ∈ l, ReRun P ops u a w) → wpL P ops Q kind us r a w → K a w) → if Region.wanted o (yielded ops a.tmps) = true then Oper.wp P o a w K Q else K (a.put o.dst undef) w) : wpL P ops Q kind us ((i, some o) :: r) a w := by
  subst hl
  unfold wpL
  rw [hk]
  exact h (fun a' w' => (∀ u ∈ us i, ReRun P ops u a' w') ∧ wpL P ops Q kind us r a' w') (fun a w h1 h2 => ⟨h1, h2⟩)
/-- a guarded call, store .. that isn't come to -/
theorem canM (hk : kind i = 2) (l : List Nat) (hl : us i = l) (hw : Region.wanted o (yielded ops a.tmps) = false) (hr : ∀ u ∈ l, ReRun P ops u (a.put o.dst undef) w) (h : wpL P ops Q kind us r (a.put o.dst undef) w) : wpL P ops Q kind us ((i, some o) :: r) a w :=
  canW hk l hl fun K hK => by rw [if_neg (by simp [hw])]; exact hK _ _ hr h
theorem canE (h : Q .normal a w) : wpL P ops Q kind us [] a w := h
end
theorem reRun_mk {u : Nat} {a : Act} {w : World} {o : Oper} {v : Value} (ho : ops[u]? = some o) (hr : (execOp a.eval o).run P w = .ok (.value v) w) (hh : Holds a o.dst v) : ReRun P ops u a w := by
  intro o' ho' _
  rw [ho] at ho'
  cases ho'
  exact ⟨v, hr, hh⟩
theorem reRun_not {u : Nat} {a : Act} {w : World} {o : Oper} (ho : ops[u]? = some o) (hw : Region.wanted o (yielded ops a.tmps) = false) : ReRun P ops u a w := by
  intro o' ho' hw'
  rw [ho] at ho'
  cases ho'
  rw [hw] at hw'
  cases hw'
theorem holds_at {a : Act} {d : Tmp} {v : Value} (h : a.tmps[d]? = some v) : Holds a (some d) v := fun d' hd _ => by cases hd; exact h
end
end Go.Proofs.Ytmekakecdgblaaa
