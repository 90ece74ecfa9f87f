
/-
  Both ends side by side (chapter 27): the program's end, the document's, the document's other end, what was sent.
-/
import Derived.Test.YtcgdmidjejmjhaaDoorPeer5
import Derived.Test.YtcgdmidjejmjhaaDoorFew
namespace Go.Proofs.YtcgdmidjejmjhaaDoor
open Go.RowKit
set_option linter.unusedVariables false
set_option linter.unusedSimpArgs false

theorem openL_byte (K B : List Int) (hb : ∀ x ∈ B, 0 ≤ x ∧ x ≤ 255) : ∀ x ∈ (openL K B).1.b, 0 ≤ x ∧ x ≤ 255 := by
  unfold openL
  split
  · intro x hx; cases hx
  · split
    · split
      · intro x hx
        exact hb x (List.mem_of_mem_take (List.mem_of_mem_drop hx))
      · intro x hx; cases hx
    · intro x hx; cases hx
theorem takeX_byte {s : Pe} {fr : Int} {b : List Int} (hb : ∀ x ∈ b, 0 ≤ x ∧ x ≤ 255) : ∀ x ∈ (takeX s fr b).2.1, 0 ≤ x ∧ x ≤ 255 := by
  unfold takeX
  split
  · intro x hx; cases hx
  · split
    · intro x hx; cases hx
    · split
      · exact openL_byte _ _ hb
      · intro x hx; cases hx
theorem sendL_byte {s : Pe} {b : List Int} (hb : ∀ x ∈ b, 0 ≤ x ∧ x ≤ 255) : ∀ x ∈ sendL s b, 0 ≤ x ∧ x ≤ 255 := by
  unfold sendL
  split
  · exact sealL_byte _ _ hb
  · intro x hx; cases hx
theorem sendL_len {s : Pe} {b : List Int} : (sendL s b).length ≤ 1226 := by
  unfold sendL
  split
  · rename_i h
    rw [sealL_len]
    unfold sendE at h
    split at h
    · omega
    · split at h
      · omega
      · (show 26 + b.length ≤ 1226); omega
  · simp
theorem sendS_ok {s : Pe} {b : List Int} (h : s.Ok) : (sendS s b).Ok := by
  unfold sendS
  split
  · rename_i he
    have h4 := h.out
    unfold sendE at he
    split at he
    · omega
    · exact ⟨h.key, h.dir, h.viewer, by (show 0 ≤ s.out + 1 ∧ s.out + 1 ≤ _); omega⟩
  · exact h
theorem takeX_ok {s : Pe} {fr : Int} {b : List Int} (h : s.Ok) : (takeX s fr b).1.Ok := by
  unfold takeX
  split
  · exact h
  · split
    · exact h
    · split
      · exact ⟨h.key, h.dir, h.viewer, h.out⟩
      · exact h
def Kp (w w' : World) : Prop := (∀ p cs, Blk w p 36 cs → Blk w' p 36 cs) ∧ ∀ v n xs, Own w 5 1 v n xs → Own w' 5 1 v n xs
/-- The blocks of F are new since w0 and of other types than bytes, slices and operations. -/
def Typ (w0 w : World) (F : Nat → Prop) : Prop := ∀ k, F k → w0.heap.size ≤ k ∧ ∃ t cs, Blk w k t cs ∧ 5 ≠ t ∧ 22 ≠ t ∧ 36 ≠ t
section
variable {w0 w w' : World} {F : Nat → Prop}
theorem Typ.kp (h : Typ w0 w F) (hc : Chg w w' F) : Kp w w' :=
  ⟨fun p cs hb => hb.kept hc fun hf => by
    obtain ⟨_, t, c, hb2, _, _, h3⟩ := h p hf
    exact h3 (hb.inj hb2).1, fun v n xs ho => ho.apart hc fun k hk => by
    obtain ⟨_, t, c, hb2, h1, _, _⟩ := h k hk
    exact ⟨t, c, hb2, h1⟩⟩
theorem Kp.of (hc : Chg w w' nob) : Kp w w' := ⟨fun p cs hb => hb.kept hc id, fun v n xs ho => ho.kept hc (fun _ _ => id)⟩
structure St (w0 w : World) (ga gwa gx gy : Nat) (ua ux uy : Value) (s sx sy : Pe) (v : Value) (P : List (List Int)) : Prop where
  pt : Pt w0 w v P
  pb : ∀ x ∈ P, x.length ≤ 100000
  a : PeerR w ga gwa ua s
  x : RPeerR w gx ux sx
  y : RPeerR w gy uy sy
  ok : s.Ok
  okx : sx.Ok
  oky : sy.Ok
  new : w0.heap.size ≤ ga ∧ w0.heap.size ≤ gwa ∧ w0.heap.size ≤ gx ∧ w0.heap.size ≤ gy
  ne : ga ≠ gx ∧ ga ≠ gy ∧ gwa ≠ gx ∧ gwa ≠ gy ∧ gx ≠ gy
variable {ga gwa gx gy : Nat} {ua ux uy v : Value} {s sx sy s' : Pe} {P : List (List Int)}
theorem St.chg (h : St w0 w ga gwa gx gy ua ux uy s sx sy v P) : Chg w0 w nob := h.pt.chg
theorem St.ta (h : St w0 w ga gwa gx gy ua ux uy s sx sy v P) : Typ w0 w (two ga gwa) := fun k hk => by
  rcases hk with rfl | rfl
  · exact ⟨h.new.1, _, _, h.a.blk, by decide, by decide, by decide⟩
  · exact ⟨h.new.2.1, _, _, h.a.win, by decide, by decide, by decide⟩
theorem St.tx (h : St w0 w ga gwa gx gy ua ux uy s sx sy v P) : Typ w0 w (fun k => k = gx) := fun k hk => by
  subst hk
  exact ⟨h.new.2.2.1, _, _, h.x.blk, by decide, by decide, by decide⟩
theorem St.ty (h : St w0 w ga gwa gx gy ua ux uy s sx sy v P) : Typ w0 w (fun k => k = gy) := fun k hk => by
  subst hk
  exact ⟨h.new.2.2.2, _, _, h.y.blk, by decide, by decide, by decide⟩
theorem Typ.pt (ht : Typ w0 w F) (h : Pt w0 w v P) (hc : Chg w w' F) : Pt w0 w' v P := h.apart hc fun k hk => by
  obtain ⟨h0, t, c, hb2, h1, h2, _⟩ := ht k hk
  exact ⟨h0, t, c, hb2, h1, h2⟩
theorem PeerR.typ (ht : Typ w0 w F) (h : PeerR w ga gwa ua s) (hc : Chg w w' F) (h1 : ¬ F ga) (h2 : ¬ F gwa) : PeerR w' ga gwa ua s := ⟨h.blk.kept hc h1, h.win.kept hc h2, (ht.kp hc).2 _ _ _ h.key⟩
theorem RPeerR.typ (ht : Typ w0 w F) (h : RPeerR w gx ux s) (hc : Chg w w' F) (h1 : ¬ F gx) : RPeerR w' gx ux s := ⟨h.blk.kept hc h1, (ht.kp hc).2 _ _ _ h.key⟩
theorem St.stepA (h : St w0 w ga gwa gx gy ua ux uy s sx sy v P) (hc : Chg w w' (two ga gwa)) (hp : PeerR w' ga gwa ua s') (hs : s'.Ok) : St w0 w' ga gwa gx gy ua ux uy s' sx sy v P := by
  have n := h.ne
  exact ⟨h.ta.pt h.pt hc, h.pb, hp, h.x.typ h.ta hc (by unfold two; omega), h.y.typ h.ta hc (by unfold two; omega), hs, h.okx, h.oky, h.new, h.ne⟩
theorem St.stepX (h : St w0 w ga gwa gx gy ua ux uy s sx sy v P) (hc : Chg w w' (fun k => k = gx)) (hp : RPeerR w' gx ux s') (hs : s'.Ok) : St w0 w' ga gwa gx gy ua ux uy s s' sy v P := by
  have n := h.ne
  exact ⟨h.tx.pt h.pt hc, h.pb, h.a.typ h.tx hc (by omega) (by omega), hp, h.y.typ h.tx hc (by omega), h.ok, hs, h.oky, h.new, h.ne⟩
theorem St.stepY (h : St w0 w ga gwa gx gy ua ux uy s sx sy v P) (hc : Chg w w' (fun k => k = gy)) (hp : RPeerR w' gy uy s') (hs : s'.Ok) : St w0 w' ga gwa gx gy ua ux uy s sx s' v P := by
  have n := h.ne
  exact ⟨h.ty.pt h.pt hc, h.pb, h.a.typ h.ty hc (by omega) (by omega), h.x.typ h.ty hc (by omega), hp, h.ok, h.okx, hs, h.new, h.ne⟩
theorem St.kept (h : St w0 w ga gwa gx gy ua ux uy s sx sy v P) (hc : Chg w w' nob) : St w0 w' ga gwa gx gy ua ux uy s sx sy v P :=
  ⟨h.pt.kept hc, h.pb, h.a.kept hc, h.x.kept hc, h.y.kept hc, h.ok, h.okx, h.oky, h.new, h.ne⟩
/-- One more was sent. -/
theorem St.push {v' : Value} {l : List Int} (h : St w0 w ga gwa gx gy ua ux uy s sx sy v P) (hp : Pt w0 w' v' (P ++ [l])) (hc : Chg w w' F) (hF : ∀ k, F k → ∃ cs, Blk w k 22 cs) (hl : l.length ≤ 100000) : St w0 w' ga gwa gx gy ua ux uy s sx sy v' (P ++ [l]) :=
  ⟨hp, fun x hx => by
    rcases List.mem_append.1 hx with h1 | h1
    · exact h.pb x h1
    · rw [List.mem_singleton.1 h1]; exact hl, h.a.rows hc hF, h.x.rows hc hF, h.y.rows hc hF, h.ok, h.okx, h.oky, h.new, h.ne⟩
theorem Kp.rows (hc : Chg w w' F) (hF : ∀ k, F k → ∃ cs, Blk w k 22 cs) : Kp w w' :=
  ⟨fun p cs hb => hb.kept hc fun hf => by
    obtain ⟨c, hb2⟩ := hF p hf
    have h2 := (hb.inj hb2).1
    revert h2
    decide, fun v n xs ho => ho.apart hc fun k hk => by
    obtain ⟨c, hb2⟩ := hF k hk
    exact ⟨_, c, hb2, by decide⟩⟩
/-- What comes of a call of an end: the bytes and what changed. -/
def Out (w' : World) (x : Value) (L : List Int) : Prop := Own w' 5 1 x L.length (bytesV L) ∧ ∀ y ∈ L, 0 ≤ y ∧ y ≤ 255
theorem Out.by {x : Value} {L : List Int} (h : Out w x L) : By w x L := ⟨h.1.rd, h.1.nilOk, h.2⟩
theorem Out.kept {x : Value} {L : List Int} (h : Out w x L) (hk : Kp w w') : Out w' x L := ⟨hk.2 _ _ _ h.1, h.2⟩
theorem Out.nil (w : World) : Out w (.slice none 0 0) [] := ⟨World.ownsRow_nil _ _ _ _, fun y hy => by cases hy⟩
theorem St.asend (h : St w0 w ga gwa gx gy ua ux uy s sx sy v P) (ht : Tab w0) {vb : Value} {b : List Int} (hb : By w0 vb b) :
    Calls Tryd.prog 8 #[ptr ga, vb] w fun e w' => ∃ x, e = .returned (.tuple #[x, .int .i64 (sendE s b)]) ∧ Out w' x (sendL s b) ∧ St w0 w' ga gwa gx gy ua ux uy (sendS s b) sx sy v P ∧ Kp w w' := by
  refine (psend_any w ga gwa ua vb s b (ht.kept h.chg id) h.a h.ok (hb.kept h.chg)).mono ?_
  rintro e w' ⟨x, rfl, hf, hp, hc⟩
  exact ⟨x, rfl, ⟨hf.1, sendL_byte hb.byte⟩, h.stepA hc.one hp (sendS_ok h.ok), h.ta.kp hc.one⟩
theorem St.xsend (h : St w0 w ga gwa gx gy ua ux uy s sx sy v P) {vb : Value} {b : List Int} (hb : By w0 vb b) :
    Calls Tryd.prog 9 #[ptr gx, vb] w fun e w' => ∃ x, e = .returned (.tuple #[x, .int .i64 (sendE sx b)]) ∧ Out w' x (sendL sx b) ∧ St w0 w' ga gwa gx gy ua ux uy s (sendS sx b) sy v P ∧ Kp w w' := by
  refine (rsend_any w gx ux vb sx b h.x h.okx (hb.kept h.chg) (fun hn k hk => by have h1 := hb.lt hn hk; have h2 := h.new; omega)).mono ?_
  rintro e w' ⟨x, rfl, hf, hp, hc⟩
  exact ⟨x, rfl, ⟨hf.1, sendL_byte hb.byte⟩, h.stepX hc hp (sendS_ok h.okx), h.tx.kp hc⟩
theorem St.ysend (h : St w0 w ga gwa gx gy ua ux uy s sx sy v P) {vb : Value} {b : List Int} (hb : By w0 vb b) :
    Calls Tryd.prog 9 #[ptr gy, vb] w fun e w' => ∃ x, e = .returned (.tuple #[x, .int .i64 (sendE sy b)]) ∧ Out w' x (sendL sy b) ∧ St w0 w' ga gwa gx gy ua ux uy s sx (sendS sy b) v P ∧ Kp w w' := by
  refine (rsend_any w gy uy vb sy b h.y h.oky (hb.kept h.chg) (fun hn k hk => by have h1 := hb.lt hn hk; have h2 := h.new; omega)).mono ?_
  rintro e w' ⟨x, rfl, hf, hp, hc⟩
  exact ⟨x, rfl, ⟨hf.1, sendL_byte hb.byte⟩, h.stepY hc hp (sendS_ok h.oky), h.ty.kp hc⟩
theorem St.atake (h : St w0 w ga gwa gx gy ua ux uy s sx sy v P) (ht : Tab w0) (fr : Int) {vb : Value} {b : List Int} (hb : By w vb b) (hl : b.length ≤ 100000) :
    Calls Tryd.prog 10 #[ptr ga, .int .i64 fr, vb] w fun e w' => ∃ x, e = .returned (.tuple #[x, .int .i64 (takeX s fr b).2.2]) ∧ Out w' x (takeX s fr b).2.1 ∧ St w0 w' ga gwa gx gy ua ux uy (takeX s fr b).1 sx sy v P ∧ Kp w w' := by
  refine (ptake_any w ga gwa ua vb s fr b (ht.kept h.chg id) h.a h.ok hb hl).mono ?_
  rintro e w' ⟨x, rfl, hf, hp, hc⟩
  exact ⟨x, rfl, ⟨hf.1, takeX_byte hb.byte⟩, h.stepA hc hp (takeX_ok h.ok), h.ta.kp hc⟩
theorem St.xtake (h : St w0 w ga gwa gx gy ua ux uy s sx sy v P) (fr : Int) {vb : Value} {b : List Int} (hb : By w vb b) (hl : b.length ≤ 100000) :
    Calls Tryd.prog 11 #[ptr gx, .int .i64 fr, vb] w fun e w' => ∃ x, e = .returned (.tuple #[x, .int .i64 (takeX sx fr b).2.2]) ∧ Out w' x (takeX sx fr b).2.1 ∧ St w0 w' ga gwa gx gy ua ux uy s (takeX sx fr b).1 sy v P ∧ Kp w w' := by
  refine (rtake_any w gx ux vb sx fr b h.x h.okx hb hl).mono ?_
  rintro e w' ⟨x, rfl, hf, hp, hc⟩
  exact ⟨x, rfl, ⟨hf.1, takeX_byte hb.byte⟩, h.stepX hc hp (takeX_ok h.okx), h.tx.kp hc⟩
end
end Go.Proofs.YtcgdmidjejmjhaaDoor
