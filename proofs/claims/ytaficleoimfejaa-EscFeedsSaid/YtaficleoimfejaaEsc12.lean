/-
  Chapter 8: plain laws: plain signs, a command's text.
-/
import Derived.Test.YtaficleoimfejaaEsc11
import Derived.Laws.BytesArg
namespace Go.Proofs.Ytaficleoimfejaa
open Go.RowKit
set_option linter.unusedVariables false
set_option linter.unusedSimpArgs false

def plainR (r : Int) : Prop := ¬ r < 32 ∧ ¬ (127 ≤ r ∧ r ≤ 159)
theorem take_plain {s : PS} {r : Int} (hs : s.st = 0) (hr : plainR r) : takeS s r = tellS s (ev0 1 r 0 0) := by
  obtain ⟨h1, h2⟩ := hr
  unfold takeS groundS
  rw [if_neg (by omega), if_neg (by omega), if_pos hs, if_neg h1, if_pos (by omega)]
theorem run_plain : ∀ (l : List Int) (s : PS), s.st = 0 → (∀ r ∈ l, plainR r) → runS s l = { s with out := s.out ++ l.map (fun r => ev0 1 r 0 0) }
  | [], s, _, _ => by simp [runS]
  | r :: t, s, hs, hl => by
    show runS (takeS s r) t = _
    rw [take_plain hs (hl r (List.mem_cons_self ..)), run_plain t (tellS s (ev0 1 r 0 0)) hs (fun x hx => hl x (List.mem_cons_of_mem _ hx))]
    simp [tellS]
def textR (r : Int) : Prop := 32 ≤ r ∧ r ≤ 126
theorem run_text : ∀ (t : List Int) (s : PS), s.st = 4 → s.text.length + t.length ≤ 128 → (∀ r ∈ t, textR r) → runS s t = { s with text := s.text ++ t }
  | [], s, _, _, _ => by simp [runS]
  | r :: t, s, hs, hn, hl => by
    have hr := hl r (List.mem_cons_self ..)
    obtain ⟨h1, h2⟩ := hr
    rw [List.length_cons] at hn
    show runS (takeS s r) t = _
    have e : takeS s r = { s with text := s.text ++ [r] } := by
      unfold takeS commandS
      rw [if_neg (by omega), if_neg (by omega), if_neg (by omega), if_neg (by omega), if_neg (by omega), if_neg (by omega), if_pos hs, if_neg (by omega), if_neg (by omega), if_pos (by omega)]
    rw [e, run_text t { s with text := s.text ++ [r] } hs (by simp; omega) (fun x hx => hl x (List.mem_cons_of_mem _ hx))]
    simp
theorem run_open (s : PS) (hs : s.st = 0) (t : List Int) (hn : t.length ≤ 120) (hl : ∀ r ∈ t, textR r) : runS s (27 :: 93 :: t) = ⟨4, [-1], false, 0, 0, false, t, s.out⟩ := by
  have e1 : takeS s 27 = goesS s 1 := by
    unfold takeS
    rw [if_neg (by omega), if_pos rfl, if_neg (by omega), if_neg (by omega)]
  have e2 : takeS (goesS s 1) 93 = goesS (goesS s 1) 4 := by
    unfold takeS escapeS
    rw [if_neg (by omega), if_neg (by omega), if_neg (by simp [goesS]), if_pos (by simp [goesS]), if_neg (by omega), if_neg (by omega), if_neg (by omega), if_pos rfl]
  show runS (takeS (takeS s 27) 93) t = _
  rw [e1, e2, run_text t (goesS (goesS s 1) 4) rfl (by simp [goesS]; omega) hl]
  simp [goesS]
/-- A command's end. -/
def endL (b : Bool) : List Int := if b then [7] else [27, 92]
theorem run_end (b : Bool) (t : List Int) (o : List Ev) : runS ⟨4, [-1], false, 0, 0, false, t, o⟩ (endL b) = ⟨0, [-1], false, 0, 0, false, [], o ++ [⟨5, 0, [], 0, 0, 0, runesBytes t⟩]⟩ := by
  cases b with
  | true =>
    show takeS ⟨4, [-1], false, 0, 0, false, t, o⟩ 7 = _
    unfold takeS commandS endsS
    rw [if_neg (by omega), if_neg (by omega), if_neg (by simp), if_neg (by simp), if_neg (by simp), if_neg (by simp), if_pos rfl, if_pos rfl]
    rfl
  | false =>
    show takeS (takeS ⟨4, [-1], false, 0, 0, false, t, o⟩ 27) 92 = _
    have e1 : takeS ⟨4, [-1], false, 0, 0, false, t, o⟩ 27 = ⟨6, [-1], false, 0, 0, false, t, o⟩ := by
      unfold takeS
      rw [if_neg (by omega), if_pos rfl, if_pos rfl]
    rw [e1]
    unfold takeS endsS
    rw [if_neg (by omega), if_neg (by omega), if_neg (by simp), if_neg (by simp), if_neg (by simp), if_neg (by simp), if_neg (by simp), if_pos ⟨rfl, rfl⟩]
    rfl
theorem enc_ascii (r : Nat) (h : r < 128) : (Utf8.encode (r : Int)).data.toList = [UInt8.ofNat r] := by
  have v : Utf8.valid (r : Int) = true := by simp [Utf8.valid]; omega
  simp [Utf8.encode, v, h]
theorem runes_ascii : ∀ (t : List Int) (b : ByteArray), (∀ r ∈ t, 0 ≤ r ∧ r < 128) → (t.foldl (fun r n => r ++ Utf8.encode n) b).data.toList = b.data.toList ++ t.map (fun r => UInt8.ofNat r.toNat)
  | [], b, _ => by simp
  | r :: t, b, h => by
    obtain ⟨n, rfl⟩ := Int.eq_ofNat_of_zero_le (h r (List.mem_cons_self ..)).1
    have hn := (h _ (List.mem_cons_self ..)).2
    rw [List.foldl_cons, runes_ascii t _ (fun x hx => h x (List.mem_cons_of_mem _ hx)), ByteArray.data_append, Array.toList_append, enc_ascii n (by omega)]
    simp
theorem runes_str {t : List Int} (h : ∀ r ∈ t, textR r) : runesBytes t = strOfNums t := by
  have e := runes_ascii t ByteArray.empty (fun r hr => by have h1 := h r hr; unfold textR at h1; omega)
  apply ByteArray.ext
  apply Array.toList_inj.1
  rw [strOfNums_data]
  unfold runesBytes
  rw [e]
  rfl
end Go.Proofs.Ytaficleoimfejaa
