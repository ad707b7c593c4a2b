/- What the functions answer, part 2. -/
import Derived.Test.YtpclegiocblpmaaP1
set_option linter.unusedVariables false
set_option linter.unusedSimpArgs false
set_option linter.defProp false
set_option maxRecDepth 100000
/- What the functions answer, part 2. -/
namespace Go.Proofs.Ytpclegiocblpmaa.AM
open Go Go.Proofs.Ytpclegiocblpmaa Go.Proofs
theorem Ix.ok.ownb {B : Nat → Prop} {H : AH} {x : Ix} (h : x.ok B H) : ∀ b, x.bs b → ∃ cs, H[b]? = some (⟨cs, .own⟩ : Blk) := by
  intro b hb
  cases x with
  | own x => exact It.ok.ownb h b hb
  | tab v ks n xs V =>
    rcases h.1.row with ⟨e, _⟩ | ⟨b', o, cs, e, h2, _⟩
    · rw [e] at hb; simp [Ix.bs, blkOf] at hb
    · rw [e] at hb; simp [Ix.bs, blkOf] at hb; subst hb; exact ⟨cs, h2⟩
  | fro v l => exact hb.elim
  | ftab v ks n xs V => exact hb.elim
theorem Ix.ok.lt {B : Nat → Prop} {H : AH} {x : Ix} (h : x.ok B H) : ∀ b, x.bs b → b < H.length := fun b hb => by
  obtain ⟨cs, h⟩ := h.ownb b hb
  exact (List.getElem?_eq_some_iff.1 h).1
structure LB (B : Nat → Prop) (c : Option Nat) (H0 H : AH) (L : List Ix) : Prop where
  ok : ∀ (i : Nat) x, L[i]? = some x → x.ok B H
  fr : ∀ (i : Nat) x, L[i]? = some x → ∀ b, x.bs b → ¬ B b ∧ H0.length ≤ b
  dj : ∀ (i j : Nat) x y, i ≠ j → L[i]? = some x → L[j]? = some y → ∀ b, x.bs b → ¬ y.bs b
  len : H0.length ≤ H.length
  keep : ∀ b, b < H0.length → c ≠ some b → H[b]? = H0[b]?
  b0 : ∀ b, b < H0.length → c ≠ some b → B b
  bl : ∀ b, B b → b < H.length ∧ c ≠ some b
  cur : ∀ cb, c = some cb → Cur H cb
  nc : ∀ cb, c = some cb → ∀ (i : Nat) x, L[i]? = some x → ¬ x.bs cb
/-- What a function holds: each by itself, none older than the call; and what it only reads. -/
def LX (c : Option Nat) (H0 H : AH) (L : List Ix) : Prop := ∃ B, LB B c H0 H L
theorem LX.ext {H0 H : AH} {L : List Ix} (h : LX none H0 H L) : ∃ K, H = H0 ++ K := by
  obtain ⟨B, h⟩ := h
  exact ext_of h.len fun b hb => h.keep b hb (by simp)
theorem LX.frm {cb : Nat} {H0 H : AH} {L : List Ix} (h : LX (some cb) H0 H L) : Frm cb H0 H := by
  obtain ⟨B, h⟩ := h
  exact ⟨h.len, fun b hb hn => h.keep b hb (by simpa using Ne.symm hn), h.cur cb rfl⟩
theorem LX.len {c : Option Nat} {H0 H : AH} {L : List Ix} (h : LX c H0 H L) : H0.length ≤ H.length := by
  obtain ⟨B, h⟩ := h; exact h.len
theorem LX.nil {H : AH} : LX none H H [] :=
  ⟨fun b => b < H.length, fun i x h => by simp at h, fun i x h => by simp at h, fun i j x y _ h => by simp at h, Nat.le_refl _, fun _ _ _ => rfl, fun b hb _ => hb, fun b hb => ⟨hb, by simp⟩, fun _ h => by simp at h, fun _ h => by simp at h⟩
theorem LX.nilc {H : AH} {cb : Nat} (h : Cur H cb) : LX (some cb) H H [] :=
  ⟨fun b => b < H.length ∧ b ≠ cb, fun i x h => by simp at h, fun i x h => by simp at h, fun i j x y _ h => by simp at h, Nat.le_refl _, fun _ _ _ => rfl, fun b hb h => ⟨hb, fun e => h (by rw [e])⟩, fun b hb => ⟨hb.1, by simpa using Ne.symm hb.2⟩, fun b hb => by cases hb; exact h, fun _ _ i x h => by simp at h⟩
/-- The heap turns, but for what is held or only read. -/
theorem LB.add {B : Nat → Prop} {c : Option Nat} {H0 H H' : AH} {L : List Ix} {x : Ix} (h : LB B c H0 H L) (hl : H.length ≤ H'.length) (hk : ∀ b, b < H.length → c ≠ some b → H'[b]? = H[b]?) (hc : ∀ cb, c = some cb → Cur H' cb) (hx : x.ok B H') (hb : ∀ b, x.bs b → H.length ≤ b) : LB B c H0 H' (x :: L) := by
  have same : ∀ (i : Nat) y, L[i]? = some y → y.ok B H' := fun i y hy => (h.ok i y hy).same (fun b hb => hk b ((h.ok i y hy).lt b hb) fun e => h.nc b e i y hy hb) (fun b hb => hk b (h.bl b hb).1 (h.bl b hb).2) fun b hb => hb
  refine ⟨?_, ?_, ?_, Nat.le_trans h.len hl, fun b hb hn => ?_, h.b0, fun b hb => ⟨Nat.lt_of_lt_of_le (h.bl b hb).1 hl, (h.bl b hb).2⟩, hc, fun cb e => ?_⟩
  · rintro (_ | i) y hy
    · cases hy; exact hx
    · exact same i y hy
  · rintro (_ | i) y hy b hb2
    · cases hy
      exact ⟨fun hB => by have := (h.bl b hB).1; have := hb b hb2; omega, Nat.le_trans h.len (hb b hb2)⟩
    · exact h.fr i y hy b hb2
  · rintro (_ | i) (_ | j) y z hne hy hz b h1 h2
    · exact hne rfl
    · cases hy; have := hb b h1; have := (h.ok j z hz).lt b h2; omega
    · cases hz; have := hb b h2; have := (h.ok i y hy).lt b h1; omega
    · exact h.dj i j y z (by omega) hy hz b h1 h2
  · rw [hk b (Nat.lt_of_lt_of_le hb h.len) hn, h.keep b hb hn]
  · rintro (_ | i) y hy h2
    · cases hy; have := hb cb h2; have := (h.cur cb e).lt; omega
    · exact h.nc cb e i y hy h2
theorem LB.tail {B : Nat → Prop} {c : Option Nat} {H0 H : AH} {L : List Ix} {x : Ix} (h : LB B c H0 H (x :: L)) : LB B c H0 H L :=
  ⟨fun i y hy => h.ok (i + 1) y hy, fun i y hy => h.fr (i + 1) y hy, fun i j y z hne hy hz => h.dj (i + 1) (j + 1) y z (by omega) hy hz, h.len, h.keep, h.b0, h.bl, h.cur, fun cb e i y hy => h.nc cb e (i + 1) y hy⟩
theorem LX.tail {c : Option Nat} {H0 H : AH} {L : List Ix} {x : Ix} (h : LX c H0 H (x :: L)) : LX c H0 H L := by
  obtain ⟨B, h⟩ := h; exact ⟨B, h.tail⟩
theorem LB.grow {B : Nat → Prop} {c : Option Nat} {H0 H H' : AH} {L : List Ix} (h : LB B c H0 H L) (hl : H.length ≤ H'.length) (hk : ∀ b, b < H.length → c ≠ some b → H'[b]? = H[b]?) (hc : ∀ cb, c = some cb → Cur H' cb) : LB B c H0 H' L :=
  (h.add (x := .own (.row (.slice none 0 0) [])) hl hk hc OwnRow.nil fun b hb => by simp [Ix.bs, It.bs, blkOf] at hb).tail
theorem LX.call {cb : Nat} {H0 H H' : AH} {L : List Ix} (h : LX (some cb) H0 H L) (hf : Frm cb H H') : LX (some cb) H0 H' L := by
  obtain ⟨B, h⟩ := h
  exact ⟨B, h.grow hf.len (fun b hb hn => hf.keep b hb (by simpa using Ne.symm hn)) (fun g e => by cases e; exact hf.cur)⟩
theorem LX.extd {c : Option Nat} {H0 H H' : AH} {L : List Ix} (h : LX c H0 H L) (hf : ∃ K, H' = H ++ K) : LX c H0 H' L := by
  obtain ⟨B, h⟩ := h
  obtain ⟨K, rfl⟩ := hf
  exact ⟨B, h.grow (by simp) (fun b hb _ => List.getElem?_append_left hb) (fun g e => (h.cur g e).mono)⟩
/-- One thing is turned. -/
theorem LB.upd {B : Nat → Prop} {c : Option Nat} {H0 H H' : AH} {L : List Ix} {x x' : Ix} (h : LB B c H0 H L) (i : Nat) (hi : L[i]? = some x) (hl : H.length ≤ H'.length) (hk : ∀ b, b < H.length → ¬ x.bs b → H'[b]? = H[b]?) (hx : x'.ok B H') (hb : ∀ b, x'.bs b → x.bs b ∨ H.length ≤ b) : LB B c H0 H' (L.set i x') := by
  have hil := (List.getElem?_eq_some_iff.1 hi).1
  have get : ∀ (j : Nat) y, (L.set i x')[j]? = some y → (j = i ∧ y = x') ∨ (j ≠ i ∧ L[j]? = some y) := fun j y hy => by
    rcases Nat.decEq i j with e | e
    · rw [List.getElem?_set_ne e] at hy; exact .inr ⟨Ne.symm e, hy⟩
    · subst e; rw [List.getElem?_set_self hil] at hy; cases hy; exact .inl ⟨rfl, rfl⟩
  have hB : ∀ b, B b → H'[b]? = H[b]? := fun b hb => hk b (h.bl b hb).1 fun e => (h.fr i x hi b e).1 hb
  refine ⟨fun j y hy => ?_, fun j y hy b hb2 => ?_, fun j k y z hne hy hz b e1 e2 => ?_, Nat.le_trans h.len hl, fun b hb2 hn => ?_, h.b0, fun b hb => ⟨Nat.lt_of_lt_of_le (h.bl b hb).1 hl, (h.bl b hb).2⟩, fun cb e => ?_, fun cb e j y hy h2 => ?_⟩
  · rcases get j y hy with ⟨rfl, rfl⟩ | ⟨hne, hy⟩
    · exact hx
    · exact (h.ok j y hy).same (fun b hb2 => hk b ((h.ok j y hy).lt b hb2) (h.dj j i y x hne hy hi b hb2)) hB fun b hb => hb
  · rcases get j y hy with ⟨rfl, rfl⟩ | ⟨hne, hy⟩
    · exact (hb b hb2).elim (h.fr j x hi b) fun h2 => ⟨fun hB2 => by have := (h.bl b hB2).1; omega, Nat.le_trans h.len h2⟩
    · exact h.fr j y hy b hb2
  · rcases get j y hy with ⟨rfl, rfl⟩ | ⟨hne1, hy'⟩
    · rcases get k z hz with ⟨rfl, rfl⟩ | ⟨hne2, hz⟩
      · exact hne rfl
      · exact (hb b e1).elim (fun e1 => h.dj j k x z hne hi hz b e1 e2) fun e1 => by have := (h.ok k z hz).lt b e2; omega
    · rcases get k z hz with ⟨rfl, rfl⟩ | ⟨hne2, hz⟩
      · exact (hb b e2).elim (fun e2 => h.dj j k y x hne hy' hi b e1 e2) fun e2 => by have := (h.ok j y hy').lt b e1; omega
      · exact h.dj j k y z hne hy' hz b e1 e2
  · rw [hk b (Nat.lt_of_lt_of_le hb2 h.len) fun e => by have := (h.fr i x hi b e).2; omega, h.keep b hb2 hn]
  · have h2 := h.cur cb e
    refine h2.same (hk cb h2.lt (h.nc cb e i x hi)) fun b cs hb2 => ?_
    rw [hk b (List.getElem?_eq_some_iff.1 hb2).1 fun e => ?_]
    · exact hb2
    · obtain ⟨cs', h3⟩ := (h.ok i x hi).ownb b e
      rw [hb2] at h3; cases h3
  · rcases get j y hy with ⟨rfl, rfl⟩ | ⟨hne1, hy'⟩
    · exact (hb cb h2).elim (h.nc cb e j x hi) fun h3 => by have := (h.cur cb e).lt; omega
    · exact h.nc cb e j y hy' h2
theorem LX.rd {c : Option Nat} {H0 H : AH} {L : List Ix} {o : Nat} {cs : List Value} (h : LX c H0 H L) (i : Nat) (hi : L[i]? = some (.own (.box o cs))) : rd H o = some cs ∧ wrt H o = some cs := by
  obtain ⟨B, h⟩ := h
  exact ⟨rd_own (h.ok i _ hi), wrt_own (h.ok i _ hi)⟩
theorem LX.own {c : Option Nat} {H0 H : AH} {L : List Ix} {v : Value} {l : List Int} (h : LX c H0 H L) (i : Nat) (hi : L[i]? = some (.own (.row v l))) : OwnRow H v l := by
  obtain ⟨B, h⟩ := h; exact h.ok i _ hi
theorem LX.int {c : Option Nat} {H0 H : AH} {L : List Ix} {v : Value} {l : List Int} (h : LX c H0 H L) (i : Nat) (hi : L[i]? = some (.own (.row v l))) : IntRow H v l := (h.own i hi).int
theorem LX.cur {H0 H : AH} {L : List Ix} {cb : Nat} (h : LX (some cb) H0 H L) : Cur H cb := by
  obtain ⟨B, h⟩ := h; exact h.cur cb rfl
theorem LX.nc {H0 H : AH} {L : List Ix} {cb : Nat} {v : Value} {l : List Int} (h : LX (some cb) H0 H L) (i : Nat) (hi : L[i]? = some (.own (.row v l))) : blkOf v ≠ some cb := by
  obtain ⟨B, h⟩ := h
  exact h.nc cb rfl i _ hi
theorem LX.box {c : Option Nat} {H0 H : AH} {L : List Ix} (h : LX c H0 H L) (cs : List Value) : LX c H0 (H ++ [⟨cs, .own⟩]) (.own (.box H.length cs) :: L) := by
  obtain ⟨B, h⟩ := h
  exact ⟨B, h.add (by simp) (fun b hb _ => List.getElem?_append_left hb) (fun g e => (h.cur g e).mono) (by show (H ++ [⟨cs, .own⟩])[H.length]? = _; rw [gt0]; rfl) fun b hb => by cases hb; exact Nat.le_refl _⟩
theorem LX.nrow {c : Option Nat} {H0 H H' : AH} {L : List Ix} {v : Value} {l : List Int} (h : LX c H0 H L) (hv : DR H H' v l) (hf : ∃ K, H' = H ++ K) : LX c H0 H' (.own (.row v l) :: L) := by
  obtain ⟨B, h⟩ := h
  obtain ⟨K, rfl⟩ := hf
  exact ⟨B, h.add (by simp) (fun b hb _ => List.getElem?_append_left hb) (fun g e => (h.cur g e).mono) hv.own hv.fr⟩
theorem LX.nil0 {c : Option Nat} {H0 H : AH} {L : List Ix} (h : LX c H0 H L) : LX c H0 H (.own (.row (.slice none 0 0) []) :: L) :=
  h.nrow ⟨OwnRow.nil, fun b hb => by simp [blkOf] at hb⟩ ext_refl
theorem LX.set {c : Option Nat} {H0 H : AH} {L : List Ix} {o : Nat} {cs : List Value} (h : LX c H0 H L) (i : Nat) (hi : L[i]? = some (.own (.box o cs))) (cs' : List Value) : LX c H0 (H.set o ⟨cs', .own⟩) (L.set i (.own (.box o cs'))) := by
  obtain ⟨B, h⟩ := h
  exact ⟨B, h.upd i hi (by simp) (fun b hb hn => List.getElem?_set_ne (fun e => hn e.symm)) (set_at (h.ok i _ hi)) fun b hb => .inl hb⟩
theorem LX.push {c : Option Nat} {H0 H H' : AH} {L : List Ix} {v v' : Value} {l m : List Int} (h : LX c H0 H L) (i : Nat) (hi : L[i]? = some (.own (.row v l))) (ho : OwnRow H' v' m) (ha : App H v H' v') : LX c H0 H' (L.set i (.own (.row v' m))) := by
  obtain ⟨B, h⟩ := h
  exact ⟨B, h.upd i hi ha.len ha.keep ho ha.new⟩
/-- What a callee leaves is held from here on. -/
theorem LX.join {c : Option Nat} {H0 H H' : AH} {L : List Ix} {L' : List It} (h : LX c H0 H L) (g : LD none H H' L') : LX c H0 H' (L'.map .own ++ L) := by
  obtain ⟨B, h⟩ := h
  obtain ⟨K, hK⟩ := g.ext
  have h1 : LB B c H0 H' L := h.grow g.len (fun b hb _ => g.keep b hb (by simp)) fun cb e => by rw [hK]; exact (h.cur cb e).mono
  have get : ∀ (i : Nat) x, (L'.map Ix.own ++ L)[i]? = some x → (∃ y, x = .own y ∧ L'[i]? = some y) ∨ (L'.length ≤ i ∧ L[i - L'.length]? = some x) := fun i x hx => by
    rcases Nat.lt_or_ge i L'.length with e | e
    · rw [List.getElem?_append_left (by simpa using e), List.getElem?_map, Option.map_eq_some_iff] at hx
      obtain ⟨y, hy, rfl⟩ := hx
      exact .inl ⟨y, rfl, hy⟩
    · rw [List.getElem?_append_right (by simpa using e), List.length_map] at hx; exact .inr ⟨e, hx⟩
  refine ⟨B, fun i x hx => ?_, fun i x hx b hb => ?_, fun i j x y hne hx hy b e1 e2 => ?_, h1.len, h1.keep, h1.b0, h1.bl, h1.cur, fun cb e i x hx hb => ?_⟩
  · rcases get i x hx with ⟨y, rfl, gx⟩ | ⟨_, hx⟩
    · exact g.ok _ y gx
    · exact h1.ok _ x hx
  · rcases get i x hx with ⟨y, rfl, gx⟩ | ⟨_, hx⟩
    · have := g.fr _ y gx b hb
      exact ⟨fun e => by have := (h.bl b e).1; omega, Nat.le_trans h.len this⟩
    · exact h1.fr _ x hx b hb
  · rcases get i x hx with ⟨x', rfl, gx⟩ | ⟨a1, hx⟩ <;> rcases get j y hy with ⟨y', rfl, gy⟩ | ⟨a2, hy⟩
    · exact g.dj i j x' y' hne gx gy b e1 e2
    · have := g.fr _ x' gx b e1; have := (h.ok _ y hy).lt b e2; omega
    · have := g.fr _ y' gy b e2; have := (h.ok _ x hx).lt b e1; omega
    · exact h1.dj _ _ x y (by omega) hx hy b e1 e2
  · rcases get i x hx with ⟨y, rfl, gx⟩ | ⟨_, hx⟩
    · have := g.fr _ y gx cb hb; have := (h.cur cb e).lt; omega
    · exact h1.nc cb e _ x hx hb
/-- What is handed back. -/
theorem LX.give {c : Option Nat} {H0 H : AH} {L : List Ix} (h : LX c H0 H L) (is : List Nat) (hn : is.Nodup) (L' : List It) (hL : is.map (fun i => L[i]?) = L'.map (fun x => some (.own x))) : LD c H0 H L' := by
  obtain ⟨B, h⟩ := h
  have get : ∀ (j : Nat) x, L'[j]? = some x → ∃ i, is[j]? = some i ∧ L[i]? = some (.own x) := fun j x hx => by
    have := congrArg (fun l => l[j]?) hL
    simp only [List.getElem?_map, hx, Option.map_some, Option.map_eq_some_iff] at this
    exact this
  refine ⟨fun j x hx => ?_, fun j x hx b hb => ?_, fun j k x y hne hx hy b e1 e2 => ?_, h.len, h.keep, h.cur, fun cb e j x hx hb => ?_⟩
  · obtain ⟨i, _, h1⟩ := get j x hx
    exact h.ok i _ h1
  · obtain ⟨i, _, h1⟩ := get j x hx
    exact (h.fr i _ h1 b hb).2
  · obtain ⟨i, hi, h1⟩ := get j x hx
    obtain ⟨i', hi', h1'⟩ := get k y hy
    refine h.dj i i' _ _ ?_ h1 h1' b e1 e2
    rintro rfl
    obtain ⟨l1, l2⟩ := List.getElem?_eq_some_iff.1 hi
    obtain ⟨l3, l4⟩ := List.getElem?_eq_some_iff.1 hi'
    have hp := List.pairwise_iff_getElem.1 hn
    rcases Nat.lt_or_gt_of_ne hne with e | e
    · exact hp _ _ l1 l3 e (l2.trans l4.symm)
    · exact hp _ _ l3 l1 e (l4.trans l2.symm)
  · obtain ⟨i, _, h1⟩ := get j x hx
    exact h.nc cb e i _ h1 hb
theorem LX.pick {c : Option Nat} {H0 H : AH} {L : List Ix} (h : LX c H0 H L) (is : List Nat) (L' : List Ix) (hL : is.map (fun i => L[i]?) = L'.map some) (hn : is.Nodup) : LX c H0 H L' := by
  obtain ⟨B, h⟩ := h
  have get : ∀ (j : Nat) x, L'[j]? = some x → ∃ i, is[j]? = some i ∧ L[i]? = some x := fun j x hx => by
    have := congrArg (fun l => l[j]?) hL
    simp only [List.getElem?_map, hx, Option.map_some, Option.map_eq_some_iff] at this
    exact this
  refine ⟨B, fun j x hx => ?_, fun j x hx b hb => ?_, fun j k x y hne hx hy b e1 e2 => ?_, h.len, h.keep, h.b0, h.bl, h.cur, fun cb e j x hx hb => ?_⟩
  · obtain ⟨i, _, h1⟩ := get j x hx
    exact h.ok i _ h1
  · obtain ⟨i, _, h1⟩ := get j x hx
    exact h.fr i _ h1 b hb
  · obtain ⟨i, hi, h1⟩ := get j x hx
    obtain ⟨i', hi', h1'⟩ := get k y hy
    refine h.dj i i' _ _ ?_ h1 h1' b e1 e2
    rintro rfl
    obtain ⟨l1, l2⟩ := List.getElem?_eq_some_iff.1 hi
    obtain ⟨l3, l4⟩ := List.getElem?_eq_some_iff.1 hi'
    have hp := List.pairwise_iff_getElem.1 hn
    rcases Nat.lt_or_gt_of_ne hne with e | e
    · exact hp _ _ l1 l3 e (l2.trans l4.symm)
    · exact hp _ _ l3 l1 e (l4.trans l2.symm)
  · obtain ⟨i, _, h1⟩ := get j x hx
    exact h.nc cb e i _ h1 hb
theorem LX.out {H0 H : AH} {L : List Ix} {cb : Nat} (h : LX (some cb) H0 H L) (hb : H0.length ≤ cb) : LX none H0 H L := by
  obtain ⟨B, h⟩ := h
  exact ⟨B, h.ok, h.fr, h.dj, h.len, fun b hb2 _ => h.keep b hb2 (by simp; omega), fun b hb2 _ => h.b0 b hb2 (by simp; omega), fun b hb => ⟨(h.bl b hb).1, by simp⟩, fun _ e => by simp at e, fun _ e => by simp at e⟩
theorem LX.cursor {H0 H H' : AH} {L : List Ix} {cb : Nat} (h : LX none H0 H L) (hf : ∃ K, H' = H ++ K) (hc : Cur H' cb) (hb : H.length ≤ cb) : LX (some cb) H0 H' L := by
  obtain ⟨B, h1⟩ := h.extd hf
  obtain ⟨B2, h⟩ := h
  have hlen := ext_len hf
  obtain ⟨K, rfl⟩ := hf
  have h3 : LB B2 none H0 (H ++ K) L := h.grow (by simp) (fun b hb _ => List.getElem?_append_left hb) (fun g e => (h.cur g e).mono)
  refine ⟨B2, h3.ok, h3.fr, h3.dj, h3.len, fun b hb _ => h3.keep b hb (by simp), fun b hb _ => h3.b0 b hb (by simp), fun b hb2 => ⟨(h3.bl b hb2).1, fun e => ?_⟩, fun g e => by cases e; exact hc, fun g e i x hx h2 => ?_⟩
  · cases e
    have := (h.bl _ hb2).1; omega
  · cases e
    have := (h.ok i x hx).lt _ h2; omega
theorem LX.da {cb : Nat} {H0 H H' : AH} {L : List Ix} {p q : Value} {sh dt : List Int} (h : LX (some cb) H0 H L) (ha : DA H H' p q sh dt) (hf : Frm cb H H') : LX (some cb) H0 H' (.own (.row p sh) :: .own (.row q dt) :: L) := by
  obtain ⟨B, h⟩ := h
  have h2 : LB B (some cb) H0 H' (.own (.row q dt) :: L) := h.add hf.len (fun b hb hn => hf.keep b hb (by simpa using Ne.symm hn)) (fun g e => by cases e; exact hf.cur) ha.dt.own ha.dt.fr
  have h1 : LB B (some cb) H0 H' (.own (.row p sh) :: L) := h.add hf.len (fun b hb hn => hf.keep b hb (by simpa using Ne.symm hn)) (fun g e => by cases e; exact hf.cur) ha.sh.own ha.sh.fr
  refine ⟨B, ?_, ?_, ?_, h1.len, h1.keep, h1.b0, h1.bl, h1.cur, fun cb e => ?_⟩
  · rintro (_ | i) y hy
    · cases hy; exact ha.sh.own
    · exact h2.ok i y hy
  · rintro (_ | i) y hy b hb
    · cases hy; exact h1.fr 0 _ rfl b hb
    · exact h2.fr i y hy b hb
  · rintro (_ | _ | i) (_ | _ | j) y z hne hy hz b e1 e2
    · exact hne rfl
    · cases hy; cases hz; exact ha.dj b e1 e2
    · exact h1.dj 0 (j + 1) y z (by omega) hy hz b e1 e2
    · cases hy; cases hz; exact ha.dj b e2 e1
    · exact hne rfl
    · exact h2.dj 0 (j + 1) y z (by omega) hy hz b e1 e2
    · exact h1.dj (i + 1) 0 y z (by omega) hy hz b e1 e2
    · exact h2.dj (i + 1) 0 y z (by omega) hy hz b e1 e2
    · exact h1.dj (i + 1) (j + 1) y z (by omega) hy hz b e1 e2
  · rintro (_ | i) y hy
    · cases hy; exact h1.nc cb e 0 _ rfl
    · exact h2.nc cb e i y hy
theorem LX.ar {c : Option Nat} {H0 H : AH} {L : List Ix} {p q : Value} {sh dt : List Int} (h : LX c H0 H L) (i j : Nat) (hi : L[i]? = some (.own (.row p sh))) (hj : L[j]? = some (.own (.row q dt))) (l1 : sh.length ≤ 1048576) (l2 : dt.length ≤ 1048576) : AR H p q sh dt := ⟨h.int i hi, h.int j hj, l1, l2⟩
theorem LX.ans {H H' : AH} {L : List Ix} {p q : Value} {c : Int} {sh dt : List Int} {R : (List Int × List Int) × Int} (h : LX none H H' L) (i j : Nat) (hij : i ≠ j) (hi : L[i]? = some (.own (.row p sh))) (hj : L[j]? = some (.own (.row q dt))) (hR : R = ((sh, dt), c)) : Ans1 H H' (.tuple #[.agg #[p, q], .int .i64 c]) R := by
  subst hR
  exact ⟨_, _, rfl, h.give [i, j] (by simp [hij]) [.row p sh, .row q dt] (by simp [hi, hj])⟩
theorem LX.err {H H' : AH} {L : List Ix} {c : Int} {R : (List Int × List Int) × Int} (h : LX none H H' L) (hR : R = (([], []), c)) : Ans1 H H' (.tuple #[.agg #[.slice none 0 0, .slice none 0 0], .int .i64 c]) R :=
  (h.nil0.nil0).ans 0 1 (by decide) rfl rfl hR
theorem cast0 : ((0 : Nat) : Int) = 0 := rfl
theorem st_box {c : Option Nat} {H0 H : AH} {L : List Ix} {Φ : Value → AH → Prop} {cs : List Value} (q : LX c H0 H L) (k : ∀ H', LX c H0 H' (.own (.box H.length cs) :: L) → Φ (.pointer (some ⟨H.length, 0, none⟩)) H') : oM (some (cs, none)) H Φ := k _ (q.box cs)
theorem st_lit {c : Option Nat} {H0 H : AH} {L : List Ix} {Φ : Value → AH → Prop} {cs : List Value} {n : Nat} (l : List Int) (he : cs = ints l) (hn : n = l.length) (q : LX c H0 H L) (k : ∀ H', LX c H0 H' (.own (.row (.slice (some ⟨H.length, 0, none⟩) n 1) l) :: L) → Φ (.slice (some ⟨H.length, 0, none⟩) n 1) H') : oM (some (cs, some (n, 1))) H Φ :=
  k _ (q.nrow (DR.lit l (Nat.le_refl _) he hn) ⟨_, rfl⟩)
theorem st_set {c : Option Nat} {H0 H : AH} {L : List Ix} {Φ : Value → AH → Prop} {b : Nat} {cs cs' : List Value} (q : LX c H0 H L) (i : Nat) (hi : L[i]? = some (.own (.box b cs))) (k : ∀ H', LX c H0 H' (L.set i (.own (.box b cs'))) → Φ undef H') : oS (some (H.set b ⟨cs', .own⟩)) Φ := k _ (q.set i hi cs')
theorem st_app {c : Option Nat} {H0 H : AH} {L : List Ix} {Φ : Value → AH → Prop} {v w : Value} {l m : List Int} (q : LX c H0 H L) (i : Nat) (hi : L[i]? = some (.own (.row v l))) (hw : IntRow H w m) (hl : l.length + m.length ≤ 1073741824)
    (k : ∀ a c' H', LX c H0 H' (L.set i (.own (.row (.slice a (l.length + m.length) c') (l ++ m)))) → Φ (.slice a (l.length + m.length) c') H') : oA (app 1 v w H) Φ :=
  oA_own (q.own i hi) hw hl fun a c' H' o x => k a c' H' (q.push i hi o x)
def Same : List Nat → Tm → Tm → Prop
  | [], _, _ => True
  | k :: ks, a, b => a k = b k ∧ Same ks a b
/-- A loop over a state; what is not turned in it stays. -/
theorem rW_loopQ {P : Program} {cd : KC} {s : List Fr} {Q : Post} {σ : Type} {tm : Tm} {H H0 : AH} {c : Option Nat} {L : List Ix} (q : LX c H0 H L) (live : List Nat) (A : σ → Tm → Prop) (J : σ → List Ix → List Ix) (μ : σ → Nat) (x : σ) (hA : A x tm) (hJ : J x L = L)
    (hs : ∀ x tm' H', Same live tm' tm → A x tm' → LX c H0 H' (J x L) → rW P cd [] (lpK P (fun tm'' H'' => ∃ y, μ y < μ x ∧ Same live tm'' tm' ∧ A y tm'' ∧ LX c H0 H'' (J y L)) s Q) tm' H') : rW P (.loop cd) s Q tm H := by
  have str : ∀ {a b d : Tm}, ∀ ks, Same ks a b → Same ks b d → Same ks a d := by
    intro a b d ks
    induction ks with
    | nil => exact fun _ _ => trivial
    | cons k ks ih => exact fun h1 h2 => ⟨h1.1.trans h2.1, ih h1.2 h2.2⟩
  have sr : ∀ {a : Tm}, ∀ ks, Same ks a a := by
    intro a ks
    induction ks with
    | nil => trivial
    | cons k ks ih => exact ⟨rfl, ih⟩
  refine rW_loop (σ := σ) (fun x tm' H' => Same live tm' tm ∧ A x tm' ∧ LX c H0 H' (J x L)) μ x ⟨sr live, hA, by rw [hJ]; exact q⟩ ?_
  rintro x tm' H' ⟨h1, h2, h3⟩
  refine kW_monoQ (fun ex tm'' H'' hh => ?_) (hs x tm' H' h1 h2 h3)
  cases ex with
  | normal =>
    obtain ⟨y, e1, e2, e3, e4⟩ := hh
    exact ⟨y, e1, str live e2 h1, e3, e4⟩
  | _ => exact hh
theorem rpBytes {P : Program} {H : AH} {t e : TypeId} {v : Value} (h : RpV P H t v) (hu : P.underlying t = some (.slice e)) (he : P.underlying e = some (.int .u8)) (hc : P.cellsOf e = 1) : ∃ a n c, v = .slice a n c ∧ BRow H a n c := by
  obtain ⟨k, vs, h, rfl⟩ := h
  rcases h.slice hu with rfl | ⟨b, n, cs, rfl, h2, h3, h4, k, h5⟩
  · exact ⟨none, 0, 0, by simp [mkV, hu], fun h => by omega⟩
  · rw [hc] at h3 h5
    refine ⟨_, n, 1, by simp [mkV, hu, hc], fun _ => ⟨b, 0, cs, rfl, rfl, h2, fun j hj => ?_⟩⟩
    obtain ⟨m, h6, h7⟩ := (h5 j hj).int he
    have h8 : cs[j]? = some (.int .u8 m) := by
      have := congrArg (fun l : List Value => l[0]?) h6
      simp only [List.getElem?_take_of_lt Nat.zero_lt_one, List.getElem?_drop, Nat.mul_one, Nat.add_zero, List.getElem?_cons_zero] at this
      exact this
    refine ⟨m, by rw [Nat.zero_add]; exact h8, ?_⟩
    have := h7
    simp [Lit.wf] at this
    have e1 : IntKind.u8.min = 0 := rfl
    have e2 : IntKind.u8.max = 255 := rfl
    omega
set_option maxHeartbeats 4000000 in
theorem sameInts_ok {H : AH} {v w : Value} {l m : List Int} (hv : IntRow H v l) (hw : IntRow H w m) (hl : l.length < 9223372036854775807) : CallsA Try.prog 44 #[v, w] H fun r H' => r = .bool (l == m) ∧ H' = H := by
  obtain ⟨a, c, rfl, gv⟩ := hv.op
  obtain ⟨a', c', rfl, gw⟩ := hw.op
  refine w44 ?_
  unfold k44
  simp -implicitDefEqProofs only [kz, kk0, kk1, kk2, kk3, ↓two_true, ↓two_false, oS_some, oM_some, mkv, aggAt, Nat.reduceLeDiff, Nat.reduceSub, Nat.reduceMul, implies_true, Nat.reduceEqDiff, reduceIte, Nat.reduceAdd, Nat.reduceBEq, reduceCtorEq, ix24, ld3, ln24]
  refine two_intro (fun h => ?_) (fun h => ?_)
  · have : (l == m) = false := by
      rw [beq_eq_false_iff_ne]
      rintro rfl
      simp at h
    rw [this]
  · have hlen : l.length = m.length := by simp at h; omega
    refine rW_loop (σ := Nat) (fun i tm H' => tm 0 = .slice a l.length c ∧ tm 1 = .slice a' m.length c' ∧ tm 5 = .int .i64 i ∧ H' = H ∧ i ≤ l.length ∧ ∀ j, j < i → l[j]? = m[j]?) (fun i => l.length - i) 0 ?_ ?_
    · simp -implicitDefEqProofs [kk0, kk1, kk2, kk3, rW_block, ↓two_true, ↓two_false, rW_cond, rO_guard, oS_some, oM_some, mkv, aggAt, Nat.reduceLeDiff, Nat.reduceSub, Nat.reduceMul, cond_true, cond_false, Option.bind_some, List.length_append, List.length_cons, List.length_nil, List.append_assoc, List.cons_append, List.nil_append, List.set_cons_zero, List.set_cons_succ, List.size_toArray, List.all_cons, List.all_nil, List.drop_zero, List.drop_succ_cons, List.take_succ_cons, List.take_zero, List.mem_cons, Prod.mk.injEq, List.not_mem_nil, implies_true, List.getElem?_toArray, List.getElem?_cons_zero, List.getElem?_cons_succ, List.getElem?_nil, Option.getD_some, Option.getD_none, Nat.reduceEqDiff, reduceIte, Nat.reduceAdd, List.map_toArray, List.map_cons, List.map_nil, Bool.false_eq_true, Nat.reduceBEq, Option.map_some, Option.map_none, reduceCtorEq, ix24, ld3, ln24]
    · rintro i tm H' ⟨h0, h1, h5, rfl, hi, hn⟩
      simp -implicitDefEqProofs only [kz, kk0, kk1, kk2, kk3, ↓two_true, ↓two_false, oS_some, oM_some, mkv, aggAt, Nat.reduceLeDiff, Nat.reduceSub, Nat.reduceMul, implies_true, Nat.reduceEqDiff, reduceIte, Nat.reduceAdd, Nat.reduceBEq, reduceCtorEq, ix24, ld3, ln24, h0, h1, h5]
      refine two_intro (fun hc => ?_) (fun hc => ?_)
      · have hc' : i < l.length := by simpa using hc
        have hc2 : i < m.length := by omega
        obtain ⟨b, o, cs, rfl, rfl, hrd, _, hcell⟩ := gv (by omega)
        obtain ⟨b', o', cs', rfl, rfl, hrd', _, hcell'⟩ := gw (by omega)
        simp -implicitDefEqProofs only [kz, kk0, kk1, kk2, kk3, ↓two_true, ↓two_false, oS_some, oM_some, mkv, aggAt, Nat.reduceLeDiff, Nat.reduceSub, Nat.reduceMul, implies_true, Nat.reduceEqDiff, reduceIte, Nat.reduceAdd, Nat.reduceBEq, reduceCtorEq, ix24, ld3, ln24, h0, h1, h5, Int.toNat_natCast, Nat.mul_one, hrd, hrd', hcell i hc', hcell' i hc2, IntWalk.i64_in (↑i + 1) (by omega)]
        refine ⟨⟨by omega, by omega⟩, ⟨by omega, by omega⟩, two_intro (fun h => ?_) (fun h => ?_)⟩
        · have : (l == m) = false := by
            rw [beq_eq_false_iff_ne]
            rintro rfl
            simp at h
          rw [this]
        · refine ⟨i + 1, by omega, by simp, hc', fun j hj => ?_⟩
          rcases Nat.lt_or_ge j i with h1 | h1
          · exact hn j h1
          · have : j = i := by omega
            subst this
            simpa [hc', hc2] using h
      · have hc' : ¬ i < l.length := by simpa using hc
        have : (l == m) = true := by
          rw [beq_iff_eq]
          refine List.ext_getElem? fun j => ?_
          rcases Nat.lt_or_ge j i with h1 | h1
          · exact hn j h1
          · rw [List.getElem?_eq_none (by omega), List.getElem?_eq_none (by omega)]
        rw [this]
theorem sizeI_one {n : Nat} (h : n ≤ 300) : sizeI [(n : Int)] = n := by
  have : inB (n : Int) 0 300 = true := by simp [inB]; omega
  simp [sizeI, prodI, this]
  omega
def rowsV (rs : List (List Int × List Int)) : List CV := rs.flatMap fun r => [.r r.1, .r r.2]
theorem rowsV_len {rs : List (List Int × List Int)} : (rowsV rs).length = rs.length * 2 := by
  induction rs with
  | nil => rfl
  | cons r rs ih => simp only [rowsV, List.flatMap_cons, List.length_append, List.length_cons, List.length_nil] at ih ⊢; omega
theorem rowsV_get : ∀ {rs : List (List Int × List Int)} {i : Nat} (h : i < rs.length), (rowsV rs)[i * 2]? = some (.r rs[i].1) ∧ (rowsV rs)[i * 2 + 1]? = some (.r rs[i].2)
  | r :: rs, 0, _ => by simp [rowsV]
  | r :: rs, i + 1, h => by
    have h' : i < rs.length := by simpa using h
    obtain ⟨h1, h2⟩ := rowsV_get h'
    have e : rowsV (r :: rs) = .r r.1 :: .r r.2 :: rowsV rs := rfl
    refine ⟨?_, ?_⟩
    · rw [e, show (i + 1) * 2 = i * 2 + 1 + 1 by omega, List.getElem?_cons_succ, List.getElem?_cons_succ, h1]; rfl
    · rw [e, show (i + 1) * 2 + 1 = i * 2 + 1 + 1 + 1 by omega, List.getElem?_cons_succ, List.getElem?_cons_succ, h2]; rfl
/-- A row of arrays that may be read. -/
def RowsA (H : AH) (v : Value) (rs : List (List Int × List Int)) : Prop :=
  ∃ a c, v = .slice a rs.length c ∧ (0 < rs.length → ∃ b o cs, a = some ⟨b, o, none⟩ ∧ c = 2 ∧ rd H b = some cs ∧
    ∀ i (hi : i < rs.length), ∃ p q, cs[o + i * 2]? = some p ∧ cs[o + i * 2 + 1]? = some q ∧ IntRow H p rs[i].1 ∧ IntRow H q rs[i].2)
theorem RowsA.ext {H H' : AH} {v : Value} {rs : List (List Int × List Int)} (h : RowsA H v rs) (he : ∃ K, H' = H ++ K) : RowsA H' v rs := by
  obtain ⟨a, c, e, g⟩ := h
  refine ⟨a, c, e, fun h0 => ?_⟩
  obtain ⟨b, o, cs, e1, e2, h1, h2⟩ := g h0
  refine ⟨b, o, cs, e1, e2, rd_ext h1 he, fun i hi => ?_⟩
  obtain ⟨p, q, g1, g2, g3, g4⟩ := h2 i hi
  exact ⟨p, q, g1, g2, g3.ext he, g4.ext he⟩
theorem FRow.rows {H : AH} {v : Value} {n : Nat} {xs : List Value} {rs : List (List Int × List Int)} (h : FRow H v [.r, .r] n xs) (hv : cvs H xs = rowsV rs) : RowsA H v rs ∧ n = rs.length := by
  have hn : n = rs.length := by
    have := congrArg List.length hv
    have hl := h.len
    simp only [cvs, List.length_map, rowsV_len, List.length_cons, List.length_nil] at this hl
    omega
  subst hn
  obtain ⟨a, c, rfl, g⟩ := h.opn 2 rfl
  refine ⟨⟨a, c, rfl, fun h0 => ?_⟩, rfl⟩
  obtain ⟨b, o, cs, rfl, rfl, h1, h2, h3⟩ := g h0
  refine ⟨b, o, cs, rfl, rfl, h1, fun i hi => ?_⟩
  obtain ⟨h4, h5⟩ := h3 i hi
  obtain ⟨p, _, e, kp, q, _, rfl, kq, rfl⟩ := h.elemn 2 rfl hi
  rw [e] at h5
  obtain ⟨g1, g2⟩ := rowsV_get hi
  have e0 : (elm 2 xs i)[0]? = some p := by rw [e]; rfl
  have e1 : (elm 2 xs i)[1]? = some q := by rw [e]; rfl
  rw [elm_get (by omega)] at e0 e1
  rw [← hv] at g1 g2
  simp only [cvs, List.getElem?_map] at g1 g2
  rw [Nat.add_zero] at e0
  rw [e0, Option.map_some, cv_row kp.1] at g1
  rw [e1, Option.map_some, cv_row kq.1] at g2
  injection g1 with g1; injection g1 with g1
  injection g2 with g2; injection g2 with g2
  refine ⟨p, q, h5 0 p rfl, h5 1 q rfl, ?_, ?_⟩
  · rw [← g1]; exact kp.1
  · rw [← g2]; exact kq.1
/-- The place of a number in a row that may be read, and the number. -/
theorem ixI {H : AH} {a : Option Addr} {n c : Nat} {l : List Int} (h : IntRow H (.slice a n c) l) {i : Nat} (hi : i < l.length) : ∃ b o cs, aIndexAddr Try.prog 24 (.slice a n c) (.int .i64 i) = some (.pointer (some ⟨b, o + i, none⟩)) ∧ rd H b = some cs ∧ cs[o + i]? = some (.int .i64 l[i]) := by
  obtain ⟨e, b, o, cs, rfl, rfl, h1, h2⟩ := h.cells hi
  subst e
  refine ⟨b, o, cs, ?_, h1, h2⟩
  rw [ix24, if_pos (by omega)]
  simp
theorem ixI0 {H : AH} {a : Option Addr} {n c : Nat} {l : List Int} {x : Int} (h : IntRow H (.slice a n c) l) (hx : l[0]? = some x) : ∃ b o cs, aIndexAddr Try.prog 24 (.slice a n c) (.int .i64 0) = some (.pointer (some ⟨b, o, none⟩)) ∧ rd H b = some cs ∧ cs[o]? = some (.int .i64 x) := by
  obtain ⟨h0, rfl⟩ := List.getElem?_eq_some_iff.1 hx
  obtain ⟨b, o, cs, h1, h2, h3⟩ := ixI h h0
  exact ⟨b, o, cs, h1, h2, h3⟩

theorem New.back {H0 H1 H : AH} {v : Value} {ks : List CK} {n : Nat} {ys : List Value} (h : New H1 H v ks n ys) (hl : H0.length ≤ H1.length) : New H0 H v ks n ys := ⟨h.ot, fun b hb => Nat.le_trans hl (h.fr b hb)⟩
theorem LD.rows {c : Option Nat} {H0 H : AH} {L : List It} {v : Value} {n : Nat} {ys : List Value} {rs : List (List Int × List Int)} (h : LD c H0 H L) (i : Nat) (hi : L[i]? = some (.cmp (.row v [.r, .r] n ys) (rowsV rs))) : RowsA H v rs ∧ n = rs.length := by
  obtain ⟨h1, h2⟩ := h.ok i _ hi
  exact FRow.rows (OT.frow h1) h2
theorem TabOk.ownOk {B : Nat → Prop} {H : AH} {v : Value} {ks : List CK} {n : Nat} {xs : List Value} (s : Nat) (hs : ks.length = s) (h : TabOk B H v ks n xs) : Go.Proofs.Ytpclegiocblpmaa.AM.ownOk v s H = true := by
  subst hs
  rcases h.row with ⟨rfl, rfl⟩ | ⟨b, o, cs, rfl, h1, h2, h3⟩
  · simp [Go.Proofs.Ytpclegiocblpmaa.AM.ownOk]
  · simp [Go.Proofs.Ytpclegiocblpmaa.AM.ownOk, h1]
/-- An element of a table that is only read: its rows, held as rows that are only read. -/
theorem LX.elem {c0 : Option Nat} {H0 H : AH} {L : List Ix} {v : Value} {n : Nat} {xs : List Value} {rs : List (List Int × List Int)} {k : Nat} (q : LX c0 H0 H L) (i : Nat) (hi : L[i]? = some (.ftab v [.r, .r] n xs (rowsV rs))) (hk : k < rs.length) :
    ∃ b o cs p p', v = .slice (some ⟨b, o, none⟩) n 2 ∧ Go.Proofs.Ytpclegiocblpmaa.AM.rd H b = some cs ∧ cs[o + k * 2]? = some p ∧ cs[o + k * 2 + 1]? = some p' ∧ LX c0 H0 H (.fro p rs[k].1 :: .fro p' rs[k].2 :: L) := by
  obtain ⟨B, h⟩ := q
  obtain ⟨t1, t2⟩ := h.ok i _ hi
  have hn : n = rs.length := (FRow.rows t1.fr t2).2
  have hl := t1.fr.len
  simp only [List.length_cons, List.length_nil] at hl
  rcases t1.fr.row with ⟨_, e⟩ | ⟨b, o, cs, e, h2, h3, h4⟩
  · omega
  · obtain ⟨g1, g2⟩ := rowsV_get hk
    have e0 := List.getElem?_eq_getElem (l := xs) (i := k * 2) (by omega)
    have e1 := List.getElem?_eq_getElem (l := xs) (i := k * 2 + 1) (by omega)
    have k0 := t1.fr.ok k 0 .r (xs[k * 2]'(by omega)) (by omega) rfl e0
    have k1 := t1.fr.ok k 1 .r _ (by omega) rfl e1
    rw [← t2] at g1 g2
    simp only [cvs, List.getElem?_map, e0, e1, Option.map_some, cv_row k0.1, cv_row k1.1, Option.some.injEq, CV.r.injEq] at g1 g2
    refine ⟨b, o, cs, _, _, by rw [e]; rfl, h2, h4 _ _ e0, by rw [Nat.add_assoc]; exact h4 _ _ e1, B, ?_⟩
    have m0 : ∀ g, blkOf (xs[k * 2]'(by omega)) = some g → B g := fun g hg => t1.base g (.inr ⟨_, List.getElem_mem _, hg⟩)
    have m1 : ∀ g, blkOf (xs[k * 2 + 1]'(by omega)) = some g → B g := fun g hg => t1.base g (.inr ⟨_, List.getElem_mem _, hg⟩)
    have h5 : LB B c0 H0 H (.fro _ rs[k].2 :: L) := h.add (x := .fro (xs[k * 2 + 1]'(by omega)) rs[k].2) (Nat.le_refl _) (fun b hb _ => rfl) h.cur ⟨by rw [← g2]; exact k1.1, m1⟩ fun b hb => hb.elim
    exact h5.add (x := .fro (xs[k * 2]'(by omega)) rs[k].1) (Nat.le_refl _) (fun b hb _ => rfl) h.cur ⟨by rw [← g1]; exact k0.1, m0⟩ fun b hb => hb.elim

theorem headD_get {l : List Int} (h : 0 < l.length) : l.headD 0 = l[0] := by
  cases l with
  | nil => simp at h
  | cons x l => rfl
set_option maxHeartbeats 4000000 in
theorem sameArray_ok {H : AH} {pa qa pb qb : Value} {sa da sb db : List Int} (a : AR H pa qa sa da) (b : AR H pb qb sb db) : CallsA Try.prog 15 #[.agg #[pa, qa], .agg #[pb, qb]] H fun r H' => r = .bool (sa == sb && da == db) ∧ ∃ K, H' = H ++ K := by
  have al := a.l1
  have bl := a.l2
  obtain ⟨za, zc, zb, zd, rfl, rfl⟩ := a.o1
  obtain ⟨ya, yc, yb, yd, rfl, rfl⟩ := b.o1
  have q := (LX.nil (H := H))
  refine w15 ?_
  unfold k15
  simp -implicitDefEqProofs only [kz, kk0, kk1, kk2, kk3, ↓two_true, ↓two_false, mkv, aggAt, Nat.reduceLeDiff, Nat.reduceSub, Nat.reduceMul, implies_true, Nat.reduceEqDiff, reduceIte, Nat.reduceAdd, Nat.reduceBEq, reduceCtorEq, fa26_0, fa26_1, ld24]
  refine st_box q fun H1 q1 => ?_
  simp -implicitDefEqProofs only [kz, kk0, kk1, kk2, kk3, ↓two_true, ↓two_false, mkv, aggAt, Nat.reduceLeDiff, Nat.reduceSub, Nat.reduceMul, implies_true, Nat.reduceEqDiff, reduceIte, Nat.reduceAdd, Nat.reduceBEq, reduceCtorEq, fa26_0, fa26_1, ld24, q1.rd 0 rfl]
  refine st_box q1 fun H2 q2 => ?_
  have es1 := fun Φ => (sameInts_ok (a.os.ext q2.ext) (b.os.ext q2.ext) (by (try simp only [List.length_cons, List.length_nil, List.length_append, List.length_replicate, List.length_map, List.length_take, List.length_drop]); omega)).eq0 (Φ := Φ)
  simp -implicitDefEqProofs only [kz, kk0, kk1, kk2, kk3, ↓two_true, ↓two_false, mkv, aggAt, Nat.reduceLeDiff, Nat.reduceSub, Nat.reduceMul, implies_true, Nat.reduceEqDiff, reduceIte, Nat.reduceAdd, Nat.reduceBEq, reduceCtorEq, fa26_0, fa26_1, ld24, es1, q2.rd 0 rfl, q2.rd 1 rfl]
  refine two_intro (fun u1 => ?_) (fun u1 => ?_)
  ·
    have es2 := fun Φ => (sameInts_ok (a.od.ext q2.ext) (b.od.ext q2.ext) (by (try simp only [List.length_cons, List.length_nil, List.length_append, List.length_replicate, List.length_map, List.length_take, List.length_drop]); omega)).eq0 (Φ := Φ)
    try simp -implicitDefEqProofs only [kz, kk0, kk1, kk2, kk3, ↓two_true, ↓two_false, mkv, aggAt, Nat.reduceLeDiff, Nat.reduceSub, Nat.reduceMul, implies_true, Nat.reduceEqDiff, reduceIte, Nat.reduceAdd, Nat.reduceBEq, reduceCtorEq, fa26_0, fa26_1, ld24, es1, es2, q2.rd 0 rfl, q2.rd 1 rfl]
    -- end1
    exact ⟨by rw [u1, Bool.true_and], q2.ext⟩
  ·
    try simp -implicitDefEqProofs only [kz, kk0, kk1, kk2, kk3, ↓two_true, ↓two_false, mkv, aggAt, Nat.reduceLeDiff, Nat.reduceSub, Nat.reduceMul, implies_true, Nat.reduceEqDiff, reduceIte, Nat.reduceAdd, Nat.reduceBEq, reduceCtorEq, fa26_0, fa26_1, ld24, es1, q2.rd 0 rfl, q2.rd 1 rfl]
    -- end2
    exact ⟨by rw [u1, Bool.false_and], q2.ext⟩

set_option maxHeartbeats 4000000 in
theorem l3VectorA_ok {H : AH} {v : Value} {l : List Int} (hv : IntRow H v l) (hl : l.length ≤ 1048576) : CallsA Try.prog 48 #[v] H fun r H' => AnsA H H' r ([(l.length : Int)], l) := l3Vector_ok hv hl

theorem ARes.ans {H H' : AH} {r : Value} {R : (List Int × List Int) × Int} (h : ARes H H' r R) : Ans1 H H' r R := by
  obtain ⟨⟨a, c, b, d, rfl, h1, h2, h3, h4, h5, h6⟩, he⟩ := h
  exact ⟨_, _, rfl, ((LD.nil (H := H)).nrow2 (H' := H') ⟨h2, h5⟩ ⟨h3, h6⟩ h4 he)⟩

def iotaL (n : Nat) : List Int := (List.range n).map fun i : Nat => (i : Int)
theorem iotaL_succ {n : Nat} : iotaL (n + 1) = iotaL n ++ [(n : Int)] := by unfold iotaL; rw [List.range_succ, List.map_append, List.map_cons, List.map_nil]
theorem iotaL_len {n : Nat} : (iotaL n).length = n := by simp [iotaL]
def iotaR (sa da : List Int) : (List Int × List Int) × Int :=
  if arrOk sa da = true then (if da.length ≠ 1 then (([], []), 3) else if da.headD 0 < 0 then (([], []), 2) else if 300 < da.headD 0 then (([], []), 6) else (([((iotaL (da.headD 0).toNat).length : Int)], iotaL (da.headD 0).toNat), 0)) else (([], []), 1)

set_option maxHeartbeats 4000000 in
theorem implIota_ok {H : AH} {pa qa : Value} {sa da : List Int} (a : AR H pa qa sa da) : CallsA Try.prog 12 #[.agg #[pa, qa]] H fun r H' => Ans1 H H' r (iotaR sa da) := by
  have al := a.l1
  have bl := a.l2
  obtain ⟨za, zc, zb, zd, rfl, rfl⟩ := a.o1
  have q := (LX.nil (H := H))
  refine w12 ?_
  unfold k12
  simp -implicitDefEqProofs only [kz, kk0, kk1, kk2, kk3, ↓two_true, ↓two_false, mkv, aggAt, Nat.reduceLeDiff, Nat.reduceSub, Nat.reduceMul, implies_true, Nat.reduceEqDiff, reduceIte, Nat.reduceAdd, Nat.reduceBEq, reduceCtorEq, al26, ap24_24, bd26, bs24_1, fa26_1, ix24, ld3, ld24, ld26, ln24, st26]
  refine st_box q fun H1 q1 => ?_
  simp -implicitDefEqProofs only [kz, kk0, kk1, kk2, kk3, ↓two_true, ↓two_false, mkv, aggAt, Nat.reduceLeDiff, Nat.reduceSub, Nat.reduceMul, implies_true, Nat.reduceEqDiff, reduceIte, Nat.reduceAdd, Nat.reduceBEq, reduceCtorEq, al26, ap24_24, bd26, bs24_1, fa26_1, ix24, ld3, ld24, ld26, ln24, st26, q1.rd 0 rfl]
  refine st_box q1 fun H2 q2 => ?_
  simp -implicitDefEqProofs only [kz, kk0, kk1, kk2, kk3, ↓two_true, ↓two_false, mkv, aggAt, Nat.reduceLeDiff, Nat.reduceSub, Nat.reduceMul, implies_true, Nat.reduceEqDiff, reduceIte, Nat.reduceAdd, Nat.reduceBEq, reduceCtorEq, al26, ap24_24, bd26, bs24_1, fa26_1, ix24, ld3, ld24, ld26, ln24, st26, q2.rd 0 rfl, q2.rd 1 rfl]
  refine (implOk_ar (a.ext q2.ext)).mono ?_
  rintro _ H3 ⟨rfl, he1⟩
  have q3 := q2.extd he1
  simp -implicitDefEqProofs only [kz, kk0, kk1, kk2, kk3, ↓two_true, ↓two_false, mkv, aggAt, Nat.reduceLeDiff, Nat.reduceSub, Nat.reduceMul, implies_true, Nat.reduceEqDiff, reduceIte, Nat.reduceAdd, Nat.reduceBEq, reduceCtorEq, al26, ap24_24, bd26, bs24_1, fa26_1, ix24, ld3, ld24, ld26, ln24, st26, q3.rd 0 rfl, q3.rd 1 rfl]
  refine two_intro (fun u1 => ?_) (fun u1 => ?_)
  ·
    have w1 : arrOk sa da = false := by simpa using u1
    try simp -implicitDefEqProofs only [kz, kk0, kk1, kk2, kk3, ↓two_true, ↓two_false, mkv, aggAt, Nat.reduceLeDiff, Nat.reduceSub, Nat.reduceMul, implies_true, Nat.reduceEqDiff, reduceIte, Nat.reduceAdd, Nat.reduceBEq, reduceCtorEq, al26, ap24_24, bd26, bs24_1, fa26_1, ix24, ld3, ld24, ld26, ln24, st26, q3.rd 0 rfl, q3.rd 1 rfl]
    refine st_set q3 0 rfl fun H4 q4 => ?_
    simp only [List.set_cons_zero, List.set_cons_succ] at q4
    simp -implicitDefEqProofs only [kz, kk0, kk1, kk2, kk3, ↓two_true, ↓two_false, mkv, aggAt, Nat.reduceLeDiff, Nat.reduceSub, Nat.reduceMul, implies_true, Nat.reduceEqDiff, reduceIte, Nat.reduceAdd, Nat.reduceBEq, reduceCtorEq, al26, ap24_24, bd26, bs24_1, fa26_1, ix24, ld3, ld24, ld26, ln24, st26, q4.rd 0 rfl, q4.rd 1 rfl]
    -- end1
    exact q4.err (by unfold iotaR; rw [if_neg (by rw [w1]; decide)])
  ·
    have v1 : arrOk sa da = true := by simpa using u1
    try simp -implicitDefEqProofs only [kz, kk0, kk1, kk2, kk3, ↓two_true, ↓two_false, mkv, aggAt, Nat.reduceLeDiff, Nat.reduceSub, Nat.reduceMul, implies_true, Nat.reduceEqDiff, reduceIte, Nat.reduceAdd, Nat.reduceBEq, reduceCtorEq, al26, ap24_24, bd26, bs24_1, fa26_1, ix24, ld3, ld24, ld26, ln24, st26, q3.rd 0 rfl, q3.rd 1 rfl]
    refine two_intro (fun u2 => ?_) (fun u2 => ?_)
    ·
      have v2 : da.length ≠ 1 := by have h5 : ¬ (da.length : Int) = 1 := (by simpa using u2); omega
      try simp -implicitDefEqProofs only [kz, kk0, kk1, kk2, kk3, ↓two_true, ↓two_false, mkv, aggAt, Nat.reduceLeDiff, Nat.reduceSub, Nat.reduceMul, implies_true, Nat.reduceEqDiff, reduceIte, Nat.reduceAdd, Nat.reduceBEq, reduceCtorEq, al26, ap24_24, bd26, bs24_1, fa26_1, ix24, ld3, ld24, ld26, ln24, st26, q3.rd 0 rfl, q3.rd 1 rfl]
      refine st_set q3 0 rfl fun H5 q5 => ?_
      simp only [List.set_cons_zero, List.set_cons_succ] at q5
      simp -implicitDefEqProofs only [kz, kk0, kk1, kk2, kk3, ↓two_true, ↓two_false, mkv, aggAt, Nat.reduceLeDiff, Nat.reduceSub, Nat.reduceMul, implies_true, Nat.reduceEqDiff, reduceIte, Nat.reduceAdd, Nat.reduceBEq, reduceCtorEq, al26, ap24_24, bd26, bs24_1, fa26_1, ix24, ld3, ld24, ld26, ln24, st26, q5.rd 0 rfl, q5.rd 1 rfl]
      -- end2
      exact q5.err (by unfold iotaR; rw [if_pos v1, if_pos v2])
    ·
      have v2 : da.length = 1 := by have h5 : (da.length : Int) = 1 := (by simpa using u2); omega
      have h0 : 0 < da.length := by omega
      obtain ⟨b1, o1, cs1, ei1, fr1, fc1⟩ := ixI0 (a.od.ext q3.ext) (List.getElem?_eq_getElem h0)
      try simp -implicitDefEqProofs only [kz, kk0, kk1, kk2, kk3, ↓two_true, ↓two_false, mkv, aggAt, Nat.reduceLeDiff, Nat.reduceSub, Nat.reduceMul, implies_true, Nat.reduceEqDiff, reduceIte, Nat.reduceAdd, Nat.reduceBEq, reduceCtorEq, al26, ap24_24, bd26, bs24_1, fa26_1, ix24, ld3, ld24, ld26, ln24, st26, ei1, fr1, fc1, q3.rd 0 rfl, q3.rd 1 rfl]
      refine two_intro (fun u3 => ?_) (fun u3 => ?_)
      ·
        have v3 : da[0] < 0 := by simpa using u3
        try simp -implicitDefEqProofs only [kz, kk0, kk1, kk2, kk3, ↓two_true, ↓two_false, mkv, aggAt, Nat.reduceLeDiff, Nat.reduceSub, Nat.reduceMul, implies_true, Nat.reduceEqDiff, reduceIte, Nat.reduceAdd, Nat.reduceBEq, reduceCtorEq, al26, ap24_24, bd26, bs24_1, fa26_1, ix24, ld3, ld24, ld26, ln24, st26, ei1, fr1, fc1, q3.rd 0 rfl, q3.rd 1 rfl]
        refine st_set q3 0 rfl fun H6 q6 => ?_
        simp only [List.set_cons_zero, List.set_cons_succ] at q6
        simp -implicitDefEqProofs only [kz, kk0, kk1, kk2, kk3, ↓two_true, ↓two_false, mkv, aggAt, Nat.reduceLeDiff, Nat.reduceSub, Nat.reduceMul, implies_true, Nat.reduceEqDiff, reduceIte, Nat.reduceAdd, Nat.reduceBEq, reduceCtorEq, al26, ap24_24, bd26, bs24_1, fa26_1, ix24, ld3, ld24, ld26, ln24, st26, q6.rd 0 rfl, q6.rd 1 rfl]
        -- end3
        exact q6.err (by unfold iotaR; rw [if_pos v1, if_neg (fun h => h v2), if_pos (by rw [headD_get h0]; exact v3)])
      ·
        obtain ⟨n, hn⟩ : ∃ n : Nat, da[0] = (n : Int) := ⟨da[0].toNat, by have h5 : ¬ da[0] < 0 := (by simpa using u3); omega⟩
        have hh : da.headD 0 = (n : Int) := by rw [headD_get h0, hn]
        obtain ⟨b2, o2, cs2, ei2, fr2, fc2⟩ := ixI0 (a.od.ext q3.ext) (List.getElem?_eq_getElem h0)
        try simp -implicitDefEqProofs only [kz, kk0, kk1, kk2, kk3, ↓two_true, ↓two_false, mkv, aggAt, Nat.reduceLeDiff, Nat.reduceSub, Nat.reduceMul, implies_true, Nat.reduceEqDiff, reduceIte, Nat.reduceAdd, Nat.reduceBEq, reduceCtorEq, al26, ap24_24, bd26, bs24_1, fa26_1, ix24, ld3, ld24, ld26, ln24, st26, hn, ei1, fr1, fc1, ei2, fr2, fc2, q3.rd 0 rfl, q3.rd 1 rfl]
        refine two_intro (fun u4 => ?_) (fun u4 => ?_)
        ·
          have v4 : 300 < (n : Int) := of_decide_eq_true u4
          try simp -implicitDefEqProofs only [kz, kk0, kk1, kk2, kk3, ↓two_true, ↓two_false, mkv, aggAt, Nat.reduceLeDiff, Nat.reduceSub, Nat.reduceMul, implies_true, Nat.reduceEqDiff, reduceIte, Nat.reduceAdd, Nat.reduceBEq, reduceCtorEq, al26, ap24_24, bd26, bs24_1, fa26_1, ix24, ld3, ld24, ld26, ln24, st26, hn, ei1, fr1, fc1, ei2, fr2, fc2, q3.rd 0 rfl, q3.rd 1 rfl]
          refine st_set q3 0 rfl fun H7 q7 => ?_
          simp only [List.set_cons_zero, List.set_cons_succ] at q7
          simp -implicitDefEqProofs only [kz, kk0, kk1, kk2, kk3, ↓two_true, ↓two_false, mkv, aggAt, Nat.reduceLeDiff, Nat.reduceSub, Nat.reduceMul, implies_true, Nat.reduceEqDiff, reduceIte, Nat.reduceAdd, Nat.reduceBEq, reduceCtorEq, al26, ap24_24, bd26, bs24_1, fa26_1, ix24, ld3, ld24, ld26, ln24, st26, hn, q7.rd 0 rfl, q7.rd 1 rfl]
          -- end4
          exact q7.err (by unfold iotaR; rw [if_pos v1, if_neg (fun h => h v2), if_neg (by omega), if_pos (by omega)])
        ·
          have v4 : n ≤ 300 := by have h5 := of_decide_eq_false u4; omega
          try simp -implicitDefEqProofs only [kz, kk0, kk1, kk2, kk3, ↓two_true, ↓two_false, mkv, aggAt, Nat.reduceLeDiff, Nat.reduceSub, Nat.reduceMul, implies_true, Nat.reduceEqDiff, reduceIte, Nat.reduceAdd, Nat.reduceBEq, reduceCtorEq, al26, ap24_24, bd26, bs24_1, fa26_1, ix24, ld3, ld24, ld26, ln24, st26, hn, ei1, fr1, fc1, ei2, fr2, fc2, q3.rd 0 rfl, q3.rd 1 rfl]
          have q8 := q3.nil0
          refine rW_loopQ (σ := Nat × Value) q8 [1, 2, 3] (fun x tm => tm 5 = .int .i64 x.1 ∧ tm 4 = x.2 ∧ x.1 ≤ n) (fun x L => L.set 0 (.own (.row x.2 (iotaL x.1)))) (fun x => n - x.1) (0, _) ⟨rfl, by first | rfl | assumption, Nat.zero_le _⟩ rfl ?_
          rintro ⟨i, ov⟩ tm1 H8 ⟨lv1, lv2, lv3, -⟩ ⟨ki, ko, hi⟩ q9
          simp -implicitDefEqProofs only [kz, kk0, kk1, kk2, kk3, ↓two_true, ↓two_false, mkv, aggAt, Nat.reduceLeDiff, Nat.reduceSub, Nat.reduceMul, implies_true, Nat.reduceEqDiff, reduceIte, Nat.reduceAdd, Nat.reduceBEq, reduceCtorEq, al26, ap24_24, bd26, bs24_1, fa26_1, ix24, ld3, ld24, ld26, ln24, st26, hn] at lv1 lv2 lv3
          simp only [List.set_cons_zero, List.set_cons_succ] at q9
          simp only at ki ko hi
          have wi : IntKind.i64.wrap ((i : Int) + 1) = ((i + 1 : Nat) : Int) := IntWalk.i64_in ((i : Int) + 1) (by omega)
          obtain ⟨a1, c1, rfl⟩ := (q9.own 0 rfl).isSlice
          obtain ⟨b3, o3, cs3, ei3, fr3, fc3⟩ := ixI0 (a.od.ext q9.ext) (List.getElem?_eq_getElem h0)
          simp -implicitDefEqProofs only [kz, kk0, kk1, kk2, kk3, ↓two_true, ↓two_false, mkv, aggAt, Nat.reduceLeDiff, Nat.reduceSub, Nat.reduceMul, implies_true, Nat.reduceEqDiff, reduceIte, Nat.reduceAdd, Nat.reduceBEq, reduceCtorEq, al26, ap24_24, bd26, bs24_1, fa26_1, ix24, ld3, ld24, ld26, ln24, st26, hn, ei3, fr3, fc3, lv1, lv2, lv3, ki, ko, wi, q9.rd 1 rfl, q9.rd 2 rfl]
          refine two_intro (fun u5 => ?_) (fun u5 => ?_)
          ·
            have hi2 : i < n := by have h5 := of_decide_eq_true u5; omega
            try simp -implicitDefEqProofs only [kz, kk0, kk1, kk2, kk3, ↓two_true, ↓two_false, mkv, aggAt, Nat.reduceLeDiff, Nat.reduceSub, Nat.reduceMul, implies_true, Nat.reduceEqDiff, reduceIte, Nat.reduceAdd, Nat.reduceBEq, reduceCtorEq, al26, ap24_24, bd26, bs24_1, fa26_1, ix24, ld3, ld24, ld26, ln24, st26, hn, ei3, fr3, fc3, lv1, lv2, lv3, ki, ko, wi, q9.rd 1 rfl, q9.rd 2 rfl]
            refine st_lit [(i : Int)] rfl rfl q9 fun H9 q10 => ?_
            simp -implicitDefEqProofs only [kz, kk0, kk1, kk2, kk3, ↓two_true, ↓two_false, mkv, aggAt, Nat.reduceLeDiff, Nat.reduceSub, Nat.reduceMul, implies_true, Nat.reduceEqDiff, reduceIte, Nat.reduceAdd, Nat.reduceBEq, reduceCtorEq, al26, ap24_24, bd26, bs24_1, fa26_1, ix24, ld3, ld24, ld26, ln24, st26, hn, lv1, lv2, lv3, ki, ko, wi, q10.rd 2 rfl, q10.rd 3 rfl]
            refine st_app q10 1 rfl (q10.int 0 rfl) (by rw [iotaL_len]; simp; omega) fun a2 c2 H10 q11 => ?_
            simp only [List.set_cons_zero, List.set_cons_succ, List.length_nil, List.length_cons, Nat.zero_add, List.nil_append] at q11 ⊢
            simp -implicitDefEqProofs only [kz, kk0, kk1, kk2, kk3, ↓two_true, ↓two_false, mkv, aggAt, Nat.reduceLeDiff, Nat.reduceSub, Nat.reduceMul, implies_true, Nat.reduceEqDiff, reduceIte, Nat.reduceAdd, Nat.reduceBEq, reduceCtorEq, al26, ap24_24, bd26, bs24_1, fa26_1, ix24, ld3, ld24, ld26, ln24, st26, hn, lv1, lv2, lv3, ki, ko, wi, q11.rd 2 rfl, q11.rd 3 rfl]
            -- back loop1
            refine ⟨(i + 1, _), (by simp only; omega), ⟨rfl, rfl, rfl, trivial⟩, ⟨by first | rfl | simp, rfl, hi2⟩, ?_⟩
            simp only [List.set_cons_zero, List.set_cons_succ, iotaL_succ]
            exact q11.pick [1, 2, 3] _ rfl (by decide)
          ·
            have hil : i = n := Nat.le_antisymm hi (by have h5 := of_decide_eq_false u5; omega)
            subst hil
            try simp -implicitDefEqProofs only [kz, kk0, kk1, kk2, kk3, ↓two_true, ↓two_false, mkv, aggAt, Nat.reduceLeDiff, Nat.reduceSub, Nat.reduceMul, implies_true, Nat.reduceEqDiff, reduceIte, Nat.reduceAdd, Nat.reduceBEq, reduceCtorEq, al26, ap24_24, bd26, bs24_1, fa26_1, ix24, ld3, ld24, ld26, ln24, st26, hn, ei3, fr3, fc3, lv1, lv2, lv3, ki, ko, wi, q9.rd 1 rfl, q9.rd 2 rfl]
            refine (vector_ok (q9.int 0 rfl) (by rw [iotaL_len]; omega) ).mono ?_
            rintro _ H11 ⟨p1, p2, rfl, g1⟩
            have q12 := q9.join g1
            simp only [List.map_cons, List.map_nil, List.cons_append, List.nil_append] at q12
            obtain ⟨a3, c3, rfl⟩ := (q12.own 0 rfl).isSlice
            obtain ⟨a4, c4, rfl⟩ := (q12.own 1 rfl).isSlice
            simp -implicitDefEqProofs only [kz, kk0, kk1, kk2, kk3, ↓two_true, ↓two_false, mkv, aggAt, Nat.reduceLeDiff, Nat.reduceSub, Nat.reduceMul, implies_true, Nat.reduceEqDiff, reduceIte, Nat.reduceAdd, Nat.reduceBEq, reduceCtorEq, al26, ap24_24, bd26, bs24_1, fa26_1, ix24, ld3, ld24, ld26, ln24, st26, hn, lv1, lv2, lv3, ki, ko, wi, q12.rd 3 rfl, q12.rd 4 rfl]
            refine st_set q12 3 rfl fun H12 q13 => ?_
            simp only [List.set_cons_zero, List.set_cons_succ] at q13
            simp -implicitDefEqProofs only [kz, kk0, kk1, kk2, kk3, ↓two_true, ↓two_false, mkv, aggAt, Nat.reduceLeDiff, Nat.reduceSub, Nat.reduceMul, implies_true, Nat.reduceEqDiff, reduceIte, Nat.reduceAdd, Nat.reduceBEq, reduceCtorEq, al26, ap24_24, bd26, bs24_1, fa26_1, ix24, ld3, ld24, ld26, ln24, st26, hn, lv1, lv2, lv3, ki, ko, wi, q13.rd 3 rfl, q13.rd 4 rfl]
            -- end5
            exact q13.ans 0 1 (by decide) rfl rfl (by unfold iotaR; rw [if_pos v1, if_neg (fun h => h v2), if_neg (by omega), if_neg (by omega), hh]; rfl)

set_option maxHeartbeats 4000000 in
theorem specIota_ok {H : AH} {pa qa : Value} {sa da : List Int} (a : AR H pa qa sa da) : CallsA Try.prog 17 #[.agg #[pa, qa]] H fun r H' => Ans1 H H' r (iotaR sa da) := by
  have al := a.l1
  have bl := a.l2
  obtain ⟨za, zc, zb, zd, rfl, rfl⟩ := a.o1
  have q := (LX.nil (H := H))
  refine w17 ?_
  unfold k17
  simp -implicitDefEqProofs only [kz, kk0, kk1, kk2, kk3, ↓two_true, ↓two_false, mkv, aggAt, Nat.reduceLeDiff, Nat.reduceSub, Nat.reduceMul, implies_true, Nat.reduceEqDiff, reduceIte, Nat.reduceAdd, Nat.reduceBEq, reduceCtorEq, al26, ap24_24, bd26, bs24_0, bs24_1, fa26_1, ix24, ld3, ld24, ld26, ln24, st26]
  refine st_box q fun H1 q1 => ?_
  simp -implicitDefEqProofs only [kz, kk0, kk1, kk2, kk3, ↓two_true, ↓two_false, mkv, aggAt, Nat.reduceLeDiff, Nat.reduceSub, Nat.reduceMul, implies_true, Nat.reduceEqDiff, reduceIte, Nat.reduceAdd, Nat.reduceBEq, reduceCtorEq, al26, ap24_24, bd26, bs24_0, bs24_1, fa26_1, ix24, ld3, ld24, ld26, ln24, st26, q1.rd 0 rfl]
  refine st_box q1 fun H2 q2 => ?_
  simp -implicitDefEqProofs only [kz, kk0, kk1, kk2, kk3, ↓two_true, ↓two_false, mkv, aggAt, Nat.reduceLeDiff, Nat.reduceSub, Nat.reduceMul, implies_true, Nat.reduceEqDiff, reduceIte, Nat.reduceAdd, Nat.reduceBEq, reduceCtorEq, al26, ap24_24, bd26, bs24_0, bs24_1, fa26_1, ix24, ld3, ld24, ld26, ln24, st26, q2.rd 0 rfl, q2.rd 1 rfl]
  refine st_box q2 fun H3 q3 => ?_
  simp -implicitDefEqProofs only [kz, kk0, kk1, kk2, kk3, ↓two_true, ↓two_false, mkv, aggAt, Nat.reduceLeDiff, Nat.reduceSub, Nat.reduceMul, implies_true, Nat.reduceEqDiff, reduceIte, Nat.reduceAdd, Nat.reduceBEq, reduceCtorEq, al26, ap24_24, bd26, bs24_0, bs24_1, fa26_1, ix24, ld3, ld24, ld26, ln24, st26, q3.rd 0 rfl, q3.rd 1 rfl, q3.rd 2 rfl]
  refine st_set q3 0 rfl fun H4 q4 => ?_
  simp only [List.set_cons_zero, List.set_cons_succ] at q4
  simp -implicitDefEqProofs only [kz, kk0, kk1, kk2, kk3, ↓two_true, ↓two_false, mkv, aggAt, Nat.reduceLeDiff, Nat.reduceSub, Nat.reduceMul, implies_true, Nat.reduceEqDiff, reduceIte, Nat.reduceAdd, Nat.reduceBEq, reduceCtorEq, al26, ap24_24, bd26, bs24_0, bs24_1, fa26_1, ix24, ld3, ld24, ld26, ln24, st26, q4.rd 0 rfl, q4.rd 1 rfl, q4.rd 2 rfl]
  refine (specOk_ar (a.ext q4.ext)).mono ?_
  rintro _ H5 ⟨rfl, he1⟩
  have q5 := q4.extd he1
  simp -implicitDefEqProofs only [kz, kk0, kk1, kk2, kk3, ↓two_true, ↓two_false, mkv, aggAt, Nat.reduceLeDiff, Nat.reduceSub, Nat.reduceMul, implies_true, Nat.reduceEqDiff, reduceIte, Nat.reduceAdd, Nat.reduceBEq, reduceCtorEq, al26, ap24_24, bd26, bs24_0, bs24_1, fa26_1, ix24, ld3, ld24, ld26, ln24, st26, q5.rd 0 rfl, q5.rd 1 rfl, q5.rd 2 rfl]
  refine two_intro (fun u1 => ?_) (fun u1 => ?_)
  ·
    have w1 : arrOk sa da = false := by simpa using u1
    try simp -implicitDefEqProofs only [kz, kk0, kk1, kk2, kk3, ↓two_true, ↓two_false, mkv, aggAt, Nat.reduceLeDiff, Nat.reduceSub, Nat.reduceMul, implies_true, Nat.reduceEqDiff, reduceIte, Nat.reduceAdd, Nat.reduceBEq, reduceCtorEq, al26, ap24_24, bd26, bs24_0, bs24_1, fa26_1, ix24, ld3, ld24, ld26, ln24, st26, q5.rd 0 rfl, q5.rd 1 rfl, q5.rd 2 rfl]
    refine st_set q5 1 rfl fun H6 q6 => ?_
    simp only [List.set_cons_zero, List.set_cons_succ] at q6
    simp -implicitDefEqProofs only [kz, kk0, kk1, kk2, kk3, ↓two_true, ↓two_false, mkv, aggAt, Nat.reduceLeDiff, Nat.reduceSub, Nat.reduceMul, implies_true, Nat.reduceEqDiff, reduceIte, Nat.reduceAdd, Nat.reduceBEq, reduceCtorEq, al26, ap24_24, bd26, bs24_0, bs24_1, fa26_1, ix24, ld3, ld24, ld26, ln24, st26, q6.rd 0 rfl, q6.rd 1 rfl, q6.rd 2 rfl]
    -- end1
    exact q6.err (by unfold iotaR; rw [if_neg (by rw [w1]; decide)])
  ·
    have v1 : arrOk sa da = true := by simpa using u1
    try simp -implicitDefEqProofs only [kz, kk0, kk1, kk2, kk3, ↓two_true, ↓two_false, mkv, aggAt, Nat.reduceLeDiff, Nat.reduceSub, Nat.reduceMul, implies_true, Nat.reduceEqDiff, reduceIte, Nat.reduceAdd, Nat.reduceBEq, reduceCtorEq, al26, ap24_24, bd26, bs24_0, bs24_1, fa26_1, ix24, ld3, ld24, ld26, ln24, st26, q5.rd 0 rfl, q5.rd 1 rfl, q5.rd 2 rfl]
    refine two_intro (fun u2 => ?_) (fun u2 => ?_)
    ·
      have v2 : da.length ≠ 1 := by have h5 : ¬ (da.length : Int) = 1 := (by simpa using u2); omega
      try simp -implicitDefEqProofs only [kz, kk0, kk1, kk2, kk3, ↓two_true, ↓two_false, mkv, aggAt, Nat.reduceLeDiff, Nat.reduceSub, Nat.reduceMul, implies_true, Nat.reduceEqDiff, reduceIte, Nat.reduceAdd, Nat.reduceBEq, reduceCtorEq, al26, ap24_24, bd26, bs24_0, bs24_1, fa26_1, ix24, ld3, ld24, ld26, ln24, st26, q5.rd 0 rfl, q5.rd 1 rfl, q5.rd 2 rfl]
      refine st_set q5 1 rfl fun H7 q7 => ?_
      simp only [List.set_cons_zero, List.set_cons_succ] at q7
      simp -implicitDefEqProofs only [kz, kk0, kk1, kk2, kk3, ↓two_true, ↓two_false, mkv, aggAt, Nat.reduceLeDiff, Nat.reduceSub, Nat.reduceMul, implies_true, Nat.reduceEqDiff, reduceIte, Nat.reduceAdd, Nat.reduceBEq, reduceCtorEq, al26, ap24_24, bd26, bs24_0, bs24_1, fa26_1, ix24, ld3, ld24, ld26, ln24, st26, q7.rd 0 rfl, q7.rd 1 rfl, q7.rd 2 rfl]
      -- end2
      exact q7.err (by unfold iotaR; rw [if_pos v1, if_pos v2])
    ·
      have v2 : da.length = 1 := by have h5 : (da.length : Int) = 1 := (by simpa using u2); omega
      have h0 : 0 < da.length := by omega
      obtain ⟨b1, o1, cs1, ei1, fr1, fc1⟩ := ixI0 (a.od.ext q5.ext) (List.getElem?_eq_getElem h0)
      try simp -implicitDefEqProofs only [kz, kk0, kk1, kk2, kk3, ↓two_true, ↓two_false, mkv, aggAt, Nat.reduceLeDiff, Nat.reduceSub, Nat.reduceMul, implies_true, Nat.reduceEqDiff, reduceIte, Nat.reduceAdd, Nat.reduceBEq, reduceCtorEq, al26, ap24_24, bd26, bs24_0, bs24_1, fa26_1, ix24, ld3, ld24, ld26, ln24, st26, ei1, fr1, fc1, q5.rd 0 rfl, q5.rd 1 rfl, q5.rd 2 rfl]
      refine two_intro (fun u3 => ?_) (fun u3 => ?_)
      ·
        have v3 : da[0] < 0 := by simpa using u3
        try simp -implicitDefEqProofs only [kz, kk0, kk1, kk2, kk3, ↓two_true, ↓two_false, mkv, aggAt, Nat.reduceLeDiff, Nat.reduceSub, Nat.reduceMul, implies_true, Nat.reduceEqDiff, reduceIte, Nat.reduceAdd, Nat.reduceBEq, reduceCtorEq, al26, ap24_24, bd26, bs24_0, bs24_1, fa26_1, ix24, ld3, ld24, ld26, ln24, st26, ei1, fr1, fc1, q5.rd 0 rfl, q5.rd 1 rfl, q5.rd 2 rfl]
        refine st_set q5 1 rfl fun H8 q8 => ?_
        simp only [List.set_cons_zero, List.set_cons_succ] at q8
        simp -implicitDefEqProofs only [kz, kk0, kk1, kk2, kk3, ↓two_true, ↓two_false, mkv, aggAt, Nat.reduceLeDiff, Nat.reduceSub, Nat.reduceMul, implies_true, Nat.reduceEqDiff, reduceIte, Nat.reduceAdd, Nat.reduceBEq, reduceCtorEq, al26, ap24_24, bd26, bs24_0, bs24_1, fa26_1, ix24, ld3, ld24, ld26, ln24, st26, q8.rd 0 rfl, q8.rd 1 rfl, q8.rd 2 rfl]
        -- end3
        exact q8.err (by unfold iotaR; rw [if_pos v1, if_neg (fun h => h v2), if_pos (by rw [headD_get h0]; exact v3)])
      ·
        obtain ⟨n, hn⟩ : ∃ n : Nat, da[0] = (n : Int) := ⟨da[0].toNat, by have h5 : ¬ da[0] < 0 := (by simpa using u3); omega⟩
        have hh : da.headD 0 = (n : Int) := by rw [headD_get h0, hn]
        obtain ⟨b2, o2, cs2, ei2, fr2, fc2⟩ := ixI0 (a.od.ext q5.ext) (List.getElem?_eq_getElem h0)
        try simp -implicitDefEqProofs only [kz, kk0, kk1, kk2, kk3, ↓two_true, ↓two_false, mkv, aggAt, Nat.reduceLeDiff, Nat.reduceSub, Nat.reduceMul, implies_true, Nat.reduceEqDiff, reduceIte, Nat.reduceAdd, Nat.reduceBEq, reduceCtorEq, al26, ap24_24, bd26, bs24_0, bs24_1, fa26_1, ix24, ld3, ld24, ld26, ln24, st26, hn, ei1, fr1, fc1, ei2, fr2, fc2, q5.rd 0 rfl, q5.rd 1 rfl, q5.rd 2 rfl]
        refine two_intro (fun u4 => ?_) (fun u4 => ?_)
        ·
          have v4 : 300 < (n : Int) := of_decide_eq_true u4
          try simp -implicitDefEqProofs only [kz, kk0, kk1, kk2, kk3, ↓two_true, ↓two_false, mkv, aggAt, Nat.reduceLeDiff, Nat.reduceSub, Nat.reduceMul, implies_true, Nat.reduceEqDiff, reduceIte, Nat.reduceAdd, Nat.reduceBEq, reduceCtorEq, al26, ap24_24, bd26, bs24_0, bs24_1, fa26_1, ix24, ld3, ld24, ld26, ln24, st26, hn, ei1, fr1, fc1, ei2, fr2, fc2, q5.rd 0 rfl, q5.rd 1 rfl, q5.rd 2 rfl]
          refine st_set q5 1 rfl fun H9 q9 => ?_
          simp only [List.set_cons_zero, List.set_cons_succ] at q9
          simp -implicitDefEqProofs only [kz, kk0, kk1, kk2, kk3, ↓two_true, ↓two_false, mkv, aggAt, Nat.reduceLeDiff, Nat.reduceSub, Nat.reduceMul, implies_true, Nat.reduceEqDiff, reduceIte, Nat.reduceAdd, Nat.reduceBEq, reduceCtorEq, al26, ap24_24, bd26, bs24_0, bs24_1, fa26_1, ix24, ld3, ld24, ld26, ln24, st26, hn, q9.rd 0 rfl, q9.rd 1 rfl, q9.rd 2 rfl]
          -- end4
          exact q9.err (by unfold iotaR; rw [if_pos v1, if_neg (fun h => h v2), if_neg (by omega), if_pos (by omega)])
        ·
          have v4 : n ≤ 300 := by have h5 := of_decide_eq_false u4; omega
          try simp -implicitDefEqProofs only [kz, kk0, kk1, kk2, kk3, ↓two_true, ↓two_false, mkv, aggAt, Nat.reduceLeDiff, Nat.reduceSub, Nat.reduceMul, implies_true, Nat.reduceEqDiff, reduceIte, Nat.reduceAdd, Nat.reduceBEq, reduceCtorEq, al26, ap24_24, bd26, bs24_0, bs24_1, fa26_1, ix24, ld3, ld24, ld26, ln24, st26, hn, ei1, fr1, fc1, ei2, fr2, fc2, q5.rd 0 rfl, q5.rd 1 rfl, q5.rd 2 rfl]
          refine st_lit [] rfl rfl q5 fun H10 q10 => ?_
          simp -implicitDefEqProofs only [kz, kk0, kk1, kk2, kk3, ↓two_true, ↓two_false, mkv, aggAt, Nat.reduceLeDiff, Nat.reduceSub, Nat.reduceMul, implies_true, Nat.reduceEqDiff, reduceIte, Nat.reduceAdd, Nat.reduceBEq, reduceCtorEq, al26, ap24_24, bd26, bs24_0, bs24_1, fa26_1, ix24, ld3, ld24, ld26, ln24, st26, hn, q10.rd 1 rfl, q10.rd 2 rfl, q10.rd 3 rfl]
          refine rW_loopQ (σ := Nat × Value) q10 [1, 2, 3] (fun x tm => tm 6 = .int .i64 x.1 ∧ tm 5 = x.2 ∧ x.1 ≤ n) (fun x L => L.set 0 (.own (.row x.2 (iotaL x.1)))) (fun x => n - x.1) (0, _) ⟨rfl, by first | rfl | assumption, Nat.zero_le _⟩ rfl ?_
          rintro ⟨i, ov⟩ tm1 H11 ⟨lv1, lv2, lv3, -⟩ ⟨ki, ko, hi⟩ q11
          simp -implicitDefEqProofs only [kz, kk0, kk1, kk2, kk3, ↓two_true, ↓two_false, mkv, aggAt, Nat.reduceLeDiff, Nat.reduceSub, Nat.reduceMul, implies_true, Nat.reduceEqDiff, reduceIte, Nat.reduceAdd, Nat.reduceBEq, reduceCtorEq, al26, ap24_24, bd26, bs24_0, bs24_1, fa26_1, ix24, ld3, ld24, ld26, ln24, st26, hn] at lv1 lv2 lv3
          simp only [List.set_cons_zero, List.set_cons_succ] at q11
          simp only at ki ko hi
          have wi : IntKind.i64.wrap ((i : Int) + 1) = ((i + 1 : Nat) : Int) := IntWalk.i64_in ((i : Int) + 1) (by omega)
          obtain ⟨a1, c1, rfl⟩ := (q11.own 0 rfl).isSlice
          obtain ⟨b3, o3, cs3, ei3, fr3, fc3⟩ := ixI0 (a.od.ext q11.ext) (List.getElem?_eq_getElem h0)
          simp -implicitDefEqProofs only [kz, kk0, kk1, kk2, kk3, ↓two_true, ↓two_false, mkv, aggAt, Nat.reduceLeDiff, Nat.reduceSub, Nat.reduceMul, implies_true, Nat.reduceEqDiff, reduceIte, Nat.reduceAdd, Nat.reduceBEq, reduceCtorEq, al26, ap24_24, bd26, bs24_0, bs24_1, fa26_1, ix24, ld3, ld24, ld26, ln24, st26, hn, ei3, fr3, fc3, lv1, lv2, lv3, ki, ko, wi, q11.rd 1 rfl, q11.rd 2 rfl, q11.rd 3 rfl]
          refine two_intro (fun u5 => ?_) (fun u5 => ?_)
          ·
            have hi2 : i < n := by have h5 := of_decide_eq_true u5; omega
            try simp -implicitDefEqProofs only [kz, kk0, kk1, kk2, kk3, ↓two_true, ↓two_false, mkv, aggAt, Nat.reduceLeDiff, Nat.reduceSub, Nat.reduceMul, implies_true, Nat.reduceEqDiff, reduceIte, Nat.reduceAdd, Nat.reduceBEq, reduceCtorEq, al26, ap24_24, bd26, bs24_0, bs24_1, fa26_1, ix24, ld3, ld24, ld26, ln24, st26, hn, ei3, fr3, fc3, lv1, lv2, lv3, ki, ko, wi, q11.rd 1 rfl, q11.rd 2 rfl, q11.rd 3 rfl]
            refine st_lit [(i : Int)] rfl rfl q11 fun H12 q12 => ?_
            simp -implicitDefEqProofs only [kz, kk0, kk1, kk2, kk3, ↓two_true, ↓two_false, mkv, aggAt, Nat.reduceLeDiff, Nat.reduceSub, Nat.reduceMul, implies_true, Nat.reduceEqDiff, reduceIte, Nat.reduceAdd, Nat.reduceBEq, reduceCtorEq, al26, ap24_24, bd26, bs24_0, bs24_1, fa26_1, ix24, ld3, ld24, ld26, ln24, st26, hn, lv1, lv2, lv3, ki, ko, wi, q12.rd 2 rfl, q12.rd 3 rfl, q12.rd 4 rfl]
            refine st_app q12 1 rfl (q12.int 0 rfl) (by rw [iotaL_len]; simp; omega) fun a2 c2 H13 q13 => ?_
            simp only [List.set_cons_zero, List.set_cons_succ, List.length_nil, List.length_cons, Nat.zero_add, List.nil_append] at q13 ⊢
            simp -implicitDefEqProofs only [kz, kk0, kk1, kk2, kk3, ↓two_true, ↓two_false, mkv, aggAt, Nat.reduceLeDiff, Nat.reduceSub, Nat.reduceMul, implies_true, Nat.reduceEqDiff, reduceIte, Nat.reduceAdd, Nat.reduceBEq, reduceCtorEq, al26, ap24_24, bd26, bs24_0, bs24_1, fa26_1, ix24, ld3, ld24, ld26, ln24, st26, hn, lv1, lv2, lv3, ki, ko, wi, q13.rd 2 rfl, q13.rd 3 rfl, q13.rd 4 rfl]
            -- back loop1
            refine ⟨(i + 1, _), (by simp only; omega), ⟨rfl, rfl, rfl, trivial⟩, ⟨by first | rfl | simp, rfl, hi2⟩, ?_⟩
            simp only [List.set_cons_zero, List.set_cons_succ, iotaL_succ]
            exact q13.pick [1, 2, 3, 4] _ rfl (by decide)
          ·
            have hil : i = n := Nat.le_antisymm hi (by have h5 := of_decide_eq_false u5; omega)
            subst hil
            try simp -implicitDefEqProofs only [kz, kk0, kk1, kk2, kk3, ↓two_true, ↓two_false, mkv, aggAt, Nat.reduceLeDiff, Nat.reduceSub, Nat.reduceMul, implies_true, Nat.reduceEqDiff, reduceIte, Nat.reduceAdd, Nat.reduceBEq, reduceCtorEq, al26, ap24_24, bd26, bs24_0, bs24_1, fa26_1, ix24, ld3, ld24, ld26, ln24, st26, hn, ei3, fr3, fc3, lv1, lv2, lv3, ki, ko, wi, q11.rd 1 rfl, q11.rd 2 rfl, q11.rd 3 rfl]
            refine (l3VectorA_ok (q11.int 0 rfl) (by rw [iotaL_len]; omega) ).mono ?_
            rintro _ H14 ⟨p1, p2, rfl, g1⟩
            have q14 := q11.join g1
            simp only [List.map_cons, List.map_nil, List.cons_append, List.nil_append] at q14
            obtain ⟨a3, c3, rfl⟩ := (q14.own 0 rfl).isSlice
            obtain ⟨a4, c4, rfl⟩ := (q14.own 1 rfl).isSlice
            simp -implicitDefEqProofs only [kz, kk0, kk1, kk2, kk3, ↓two_true, ↓two_false, mkv, aggAt, Nat.reduceLeDiff, Nat.reduceSub, Nat.reduceMul, implies_true, Nat.reduceEqDiff, reduceIte, Nat.reduceAdd, Nat.reduceBEq, reduceCtorEq, al26, ap24_24, bd26, bs24_0, bs24_1, fa26_1, ix24, ld3, ld24, ld26, ln24, st26, hn, lv1, lv2, lv3, ki, ko, wi, q14.rd 3 rfl, q14.rd 4 rfl, q14.rd 5 rfl]
            refine st_set q14 4 rfl fun H15 q15 => ?_
            simp only [List.set_cons_zero, List.set_cons_succ] at q15
            simp -implicitDefEqProofs only [kz, kk0, kk1, kk2, kk3, ↓two_true, ↓two_false, mkv, aggAt, Nat.reduceLeDiff, Nat.reduceSub, Nat.reduceMul, implies_true, Nat.reduceEqDiff, reduceIte, Nat.reduceAdd, Nat.reduceBEq, reduceCtorEq, al26, ap24_24, bd26, bs24_0, bs24_1, fa26_1, ix24, ld3, ld24, ld26, ln24, st26, hn, lv1, lv2, lv3, ki, ko, wi, q15.rd 3 rfl, q15.rd 4 rfl, q15.rd 5 rfl]
            -- end5
            exact q15.ans 0 1 (by decide) rfl rfl (by unfold iotaR; rw [if_pos v1, if_neg (fun h => h v2), if_neg (by omega), if_neg (by omega), hh]; rfl)

/-- The strict order of indices: by their keys, then by themselves. -/
def slt (D : Int → Int) (x y : Int) : Prop := D x < D y ∨ (D x = D y ∧ x < y)
theorem slt_trans {D : Int → Int} {x y z : Int} (h : slt D x y) (h' : slt D y z) : slt D x z := by unfold slt at *; omega
theorem slt_asym {D : Int → Int} {x y : Int} (h : slt D x y) : ¬ slt D y x := by unfold slt at *; omega
/-- What stands at a place. -/
def gx (l : List Int) (i : Nat) : Int := l.getD i 0
theorem gx_get {l : List Int} {i : Nat} (h : i < l.length) : l[i]? = some (gx l i) := by
  simp [gx, List.getD_eq_getElem?_getD, List.getElem?_eq_getElem h]
theorem gx_of {l : List Int} {i : Nat} {x : Int} (h : l[i]? = some x) : gx l i = x := by
  simp [gx, List.getD_eq_getElem?_getD, h]
set_option maxHeartbeats 4000000 in
theorem gx_el {l : List Int} {i : Nat} (h : i < l.length) : l[i] = gx l i := by
  have := gx_get h; rw [List.getElem?_eq_getElem h] at this; exact Option.some.inj this
def swp (l : List Int) (i j : Nat) : List Int := (l.set i (gx l j)).set j (gx l i)
theorem swp_len {l : List Int} {i j : Nat} : (swp l i j).length = l.length := by simp [swp]
theorem gx_set {l : List Int} {i x : Nat} {v : Int} (hi : i < l.length) : gx (l.set i v) x = if x = i then v else gx l x := by
  unfold gx
  rw [List.getD_eq_getElem?_getD, List.getD_eq_getElem?_getD, List.getElem?_set]
  by_cases h : i = x
  · subst h; simp [hi]
  · rw [if_neg h, if_neg (fun e => h e.symm)]
theorem gx_swp {l : List Int} {i j x : Nat} (hi : i < l.length) (hj : j < l.length) : gx (swp l i j) x = if x = j then gx l i else if x = i then gx l j else gx l x := by
  unfold swp
  rw [gx_set (by simpa using hj), gx_set hi]
theorem swp_perm {l : List Int} {i j : Nat} (hi : i < l.length) (hj : j < l.length) : (swp l i j).Perm l := by
  unfold swp
  rw [← gx_el hi, ← gx_el hj]
  exact List.set_set_perm hi hj
/-- The places from one to another are sorted. -/
def SortS (D : Int → Int) (l : List Int) (a b : Nat) : Prop := ∀ i j, a ≤ i → i < j → j < b → slt D (gx l i) (gx l j)
/-- What stands between two places was moved there, and no more. -/
structure Mv (l l' : List Int) (a b : Nat) : Prop where
  perm : l'.Perm l
  out : ∀ i, i < a ∨ b ≤ i → gx l' i = gx l i
  inn : ∀ i, a ≤ i → i < b → ∃ j, a ≤ j ∧ j < b ∧ gx l' i = gx l j
theorem Mv.len {l l' : List Int} {a b : Nat} (h : Mv l l' a b) : l'.length = l.length := h.perm.length_eq
theorem Mv.refl {l : List Int} {a b : Nat} : Mv l l a b := ⟨List.Perm.refl _, fun _ _ => rfl, fun i h1 h2 => ⟨i, h1, h2, rfl⟩⟩
theorem Mv.trans {l l' l'' : List Int} {a b : Nat} (h : Mv l l' a b) (h' : Mv l' l'' a b) : Mv l l'' a b :=
  ⟨h'.perm.trans h.perm, fun i hi => by rw [h'.out i hi, h.out i hi], fun i h1 h2 => by
    obtain ⟨j, j1, j2, e⟩ := h'.inn i h1 h2
    obtain ⟨k, k1, k2, e2⟩ := h.inn j j1 j2
    exact ⟨k, k1, k2, by rw [e, e2]⟩⟩
theorem Mv.wide {l l' : List Int} {a b a' b' : Nat} (h : Mv l l' a b) (ha : a' ≤ a) (hb : b ≤ b') : Mv l l' a' b' :=
  ⟨h.perm, fun i hi => h.out i (by omega), fun i h1 h2 => by
    by_cases hc : a ≤ i ∧ i < b
    · obtain ⟨j, j1, j2, e⟩ := h.inn i hc.1 hc.2; exact ⟨j, by omega, by omega, e⟩
    · exact ⟨i, h1, h2, h.out i (by omega)⟩⟩
theorem Mv.swp {l : List Int} {a b i j : Nat} (hi : a ≤ i) (hi2 : i < b) (hj : a ≤ j) (hj2 : j < b) (hb : b ≤ l.length) : Mv l (swp l i j) a b :=
  ⟨swp_perm (by omega) (by omega), fun x hx => by rw [gx_swp (by omega) (by omega), if_neg (by omega), if_neg (by omega)], fun x h1 h2 => by
    rw [gx_swp (by omega) (by omega)]
    split
    · exact ⟨i, hi, hi2, rfl⟩
    · split
      · exact ⟨j, hj, hj2, rfl⟩
      · exact ⟨x, h1, h2, rfl⟩⟩
theorem SortS.mv {D : Int → Int} {l l' : List Int} {a b : Nat} (h : SortS D l a b) (he : ∀ i, a ≤ i → i < b → gx l' i = gx l i) : SortS D l' a b := fun i j h1 h2 h3 => by
  rw [he i h1 (by omega), he j (by omega) h3]; exact h i j h1 h2 h3
/-- One step of putting an element in: what stands ahead of it and behind it is sorted. -/
structure Ins1 (D : Int → Int) (l : List Int) (a i j : Nat) : Prop where
  s1 : ∀ p q, a ≤ p → p < q → q ≤ i → p ≠ j → q ≠ j → slt D (gx l p) (gx l q)
  s2 : ∀ q, j < q → q ≤ i → slt D (gx l j) (gx l q)
  s3 : ∀ p, a ≤ p → p < j → gx l p < gx l j
theorem Ins1.start {D : Int → Int} {l : List Int} {a i : Nat} (h : SortS D l a i) (h3 : ∀ p, a ≤ p → p < i → gx l p < gx l i) : Ins1 D l a i i :=
  ⟨fun p q h1 h2 h3 h4 h5 => h p q h1 h2 (by omega), fun q h1 h2 => by omega, h3⟩
theorem Ins1.step {D : Int → Int} {l : List Int} {a i j : Nat} (h : Ins1 D l a i (j + 1)) (hj : a ≤ j) (hi : j + 1 ≤ i) (hl : i < l.length) (hd : D (gx l (j + 1)) < D (gx l j)) : Ins1 D (Go.Proofs.Ytpclegiocblpmaa.AM.swp l (j + 1) j) a i j := by
  have e := fun x => gx_swp (l := l) (i := j + 1) (j := j) (x := x) (by omega) (by omega)
  refine ⟨fun p q h1 h2 h3 h4 h5 => ?_, fun q h1 h2 => ?_, fun p h1 h2 => ?_⟩
  · rw [e p, e q, if_neg h4, if_neg h5]
    by_cases hp : p = j + 1
    · rw [if_pos hp, if_neg (by omega)]
      exact h.s1 j q hj (by omega) h3 (by omega) (by omega)
    · rw [if_neg hp]
      by_cases hq : q = j + 1
      · rw [if_pos hq]; exact h.s1 p j h1 (by omega) (by omega) hp (by omega)
      · rw [if_neg hq]; exact h.s1 p q h1 h2 h3 hp hq
  · rw [e j, e q, if_pos rfl, if_neg (by omega)]
    by_cases hq : q = j + 1
    · rw [if_pos hq]; exact .inl hd
    · rw [if_neg hq]; exact h.s2 q (by omega) h2
  · rw [e j, e p, if_pos rfl, if_neg (by omega), if_neg (by omega)]
    exact h.s3 p h1 (by omega)
theorem Ins1.stop0 {D : Int → Int} {l : List Int} {a i : Nat} (h : Ins1 D l a i a) : SortS D l a (i + 1) := fun p q h1 h2 h3 => by
  by_cases hp : p = a
  · subst hp; exact h.s2 q h2 (by omega)
  · exact h.s1 p q h1 h2 (by omega) hp (by omega)
theorem Ins1.stop {D : Int → Int} {l : List Int} {a i j : Nat} (h : Ins1 D l a i (j + 1)) (hj : a ≤ j) (hi : j + 1 ≤ i) (hd : ¬ D (gx l (j + 1)) < D (gx l j)) : SortS D l a (i + 1) := fun p q h1 h2 h3 => by
  by_cases hp : p = j + 1
  · subst hp; exact h.s2 q h2 (by omega)
  · by_cases hq : q = j + 1
    · subst hq
      have h4 : slt D (gx l j) (gx l (j + 1)) := by have := h.s3 j hj (by omega); unfold slt; omega
      by_cases hp2 : p = j
      · subst hp2; exact h4
      · exact slt_trans (h.s1 p j h1 (by omega) (by omega) hp (by omega)) h4
    · exact h.s1 p q h1 h2 (by omega) hp hq
/-- What stands ahead of a place stands behind what stood there. -/
def Rot (l l' : List Int) (a m b : Nat) : Prop := ∀ x, gx l' x = if a ≤ x ∧ x < a + (b - m) then gx l (x + (m - a)) else if a + (b - m) ≤ x ∧ x < b then gx l (x - (b - m)) else gx l x
/-- As many of one place on are changed with those from another on. -/
def Swr (l l' : List Int) (a b n : Nat) : Prop := ∀ x, gx l' x = if a ≤ x ∧ x < a + n then gx l (x + (b - a)) else if b ≤ x ∧ x < b + n then gx l (x - (b - a)) else gx l x
theorem Rot.left {l l' t : List Int} {m i j : Nat} (hi : i ≤ m) (hij : j < i) (h : Swr l l' (m - i) m j) (hr : Rot l' t (m - i + j) m (m + j)) : Rot l t (m - i) m (m + j) := by
  have h2 : ∀ x, gx l' x = _ := h
  intro x
  rw [hr x]
  simp only [h2]
  repeat' split
  all_goals first | rfl | omega | (congr 1; omega)
theorem Rot.right {l l' t : List Int} {m i j : Nat} (hi : i ≤ m) (hij : i < j) (h : Swr l l' (m - i) (m + j - i) i) (hr : Rot l' t (m - i) m (m + (j - i))) : Rot l t (m - i) m (m + j) := by
  have h2 : ∀ x, gx l' x = _ := h
  intro x
  rw [hr x]
  simp only [h2]
  repeat' split
  all_goals first | rfl | omega | (congr 1; omega)
theorem Rot.same {l l' : List Int} {m i : Nat} (hi : i ≤ m) (h : Swr l l' (m - i) m i) : Rot l l' (m - i) m (m + i) := by
  intro x
  rw [h x]
  repeat' split
  all_goals first | rfl | omega | (congr 1; omega)
theorem Swr.zero {l : List Int} {a b : Nat} : Swr l l a b 0 := fun x => by rw [if_neg (by omega), if_neg (by omega)]
theorem Swr.step {l l' : List Int} {a b n : Nat} (h : Swr l l' a b n) (hab : a + n < b) (hl : b + n < l'.length) : Swr l (Go.Proofs.Ytpclegiocblpmaa.AM.swp l' (a + n) (b + n)) a b (n + 1) := by
  have h2 : ∀ x, gx l' x = _ := h
  intro x
  rw [gx_swp (by omega) hl]
  simp only [h2]
  repeat' split
  all_goals first | rfl | omega | (congr 1; omega)
/-- The indices of one row all stand ahead of those of the other one. -/
def Ahd (l : List Int) (a m b : Nat) : Prop := ∀ p q, a ≤ p → p < m → m ≤ q → q < b → gx l p < gx l q
/-- What a place is moved up. -/
def Up1 (l l' : List Int) (a k : Nat) : Prop := ∀ x, gx l' x = if a ≤ x ∧ x < k then gx l (x + 1) else if x = k then gx l a else gx l x
theorem Up1.zero {l : List Int} {a : Nat} : Up1 l l a a := fun x => by
  rw [if_neg (by omega)]; split
  · rename_i h; subst h; rfl
  · rfl
theorem Up1.step {l l' : List Int} {a k : Nat} (h : Up1 l l' a k) (hk : a ≤ k) (hl : k + 1 < l'.length) : Up1 l (Go.Proofs.Ytpclegiocblpmaa.AM.swp l' k (k + 1)) a (k + 1) := by
  intro x
  rw [gx_swp (by omega) hl]
  by_cases h1 : x = k + 1
  · subst h1
    rw [if_pos rfl, if_neg (by omega), if_pos rfl, h k, if_neg (by omega), if_pos rfl]
  · rw [if_neg h1]
    by_cases h2 : x = k
    · subst h2
      rw [if_pos rfl, if_pos (by omega), h, if_neg (by omega), if_neg (by omega)]
    · rw [if_neg h2, h x]
      by_cases h3 : a ≤ x ∧ x < k
      · rw [if_pos h3, if_pos (by omega)]
      · rw [if_neg h3, if_neg h2, if_neg (by omega), if_neg h1]
/-- What a place is moved down. -/
def Dn1 (l l' : List Int) (k m : Nat) : Prop := ∀ x, gx l' x = if k < x ∧ x ≤ m then gx l (x - 1) else if x = k then gx l m else gx l x
theorem Dn1.zero {l : List Int} {m : Nat} : Dn1 l l m m := fun x => by
  rw [if_neg (by omega)]; split
  · rename_i h; subst h; rfl
  · rfl
theorem Dn1.step {l l' : List Int} {k m : Nat} (h : Dn1 l l' (k + 1) m) (hk : k + 1 ≤ m) (hl : k + 1 < l'.length) : Dn1 l (Go.Proofs.Ytpclegiocblpmaa.AM.swp l' (k + 1) k) k m := by
  intro x
  rw [gx_swp hl (by omega)]
  by_cases h1 : x = k
  · subst h1
    rw [if_pos rfl, if_neg (by omega), if_pos rfl, h, if_neg (by omega), if_pos rfl]
  · rw [if_neg h1]
    by_cases h2 : x = k + 1
    · subst h2
      rw [if_pos rfl, if_pos (by omega), h k, if_neg (by omega), if_neg (by omega)]
      congr 1
    · rw [if_neg h2, h x]
      by_cases h3 : k + 1 < x ∧ x ≤ m
      · rw [if_pos h3, if_pos (by omega)]
      · rw [if_neg h3, if_neg h2, if_neg (by omega), if_neg h1]
/-- One in front is put into its place. -/
theorem merge_front {D : Int → Int} {l l' : List Int} {a i b : Nat} (hs : SortS D l (a + 1) b) (hx : Ahd l a (a + 1) b) (hi : a + 1 ≤ i) (hib : i ≤ b)
    (h1 : ∀ x, a + 1 ≤ x → x < i → D (gx l x) < D (gx l a)) (h2 : ∀ x, i ≤ x → x < b → ¬ D (gx l x) < D (gx l a)) (hu : Up1 l l' a (i - 1)) : SortS D l' a b := by
  intro p q hp hpq hq
  rw [hu p, hu q]
  by_cases c1 : q < i - 1
  · rw [if_pos (by omega), if_pos (by omega)]; exact hs _ _ (by omega) (by omega) (by omega)
  · rw [if_neg (c := a ≤ q ∧ q < i - 1) (by omega)]
    by_cases c2 : q = i - 1
    · rw [if_pos c2, if_pos (by omega)]
      exact .inl (h1 _ (by omega) (by omega))
    · rw [if_neg c2]
      by_cases c3 : p < i - 1
      · rw [if_pos (by omega)]; exact hs _ _ (by omega) (by omega) hq
      · rw [if_neg (by omega)]
        by_cases c4 : p = i - 1
        · rw [if_pos c4]
          have e1 := h2 q (by omega) hq
          have e2 := hx a q (Nat.le_refl _) (by omega) (by omega) hq
          unfold slt; omega
        · rw [if_neg c4]; exact hs _ _ (by omega) hpq hq
/-- One at the end is put into its place. -/
theorem merge_back {D : Int → Int} {l l' : List Int} {a i m : Nat} (hs : SortS D l a m) (hx : Ahd l a m (m + 1)) (hi : a ≤ i) (him : i ≤ m)
    (h1 : ∀ x, a ≤ x → x < i → ¬ D (gx l m) < D (gx l x)) (h2 : ∀ x, i ≤ x → x < m → D (gx l m) < D (gx l x)) (hu : Dn1 l l' i m) : SortS D l' a (m + 1) := by
  intro p q hp hpq hq
  rw [hu p, hu q]
  by_cases c1 : i < p
  · rw [if_pos (by omega), if_pos (by omega)]; exact hs _ _ (by omega) (by omega) (by omega)
  · rw [if_neg (c := i < p ∧ p ≤ m) (by omega)]
    by_cases c2 : p = i
    · rw [if_pos c2, if_pos (by omega)]
      exact .inl (h2 _ (by omega) (by omega))
    · rw [if_neg c2]
      by_cases c3 : i < q
      · rw [if_pos (by omega)]; exact hs _ _ hp (by omega) (by omega)
      · rw [if_neg (by omega)]
        by_cases c4 : q = i
        · rw [if_pos c4]
          have e1 := h1 p hp (by omega)
          have e2 := hx p m hp (by omega) (Nat.le_refl _) (by omega)
          unfold slt; omega
        · rw [if_neg c4]; exact hs _ _ hp hpq (by omega)
theorem slt_le {D : Int → Int} {x y : Int} (h : slt D x y) : D x ≤ D y := by unfold slt at h; omega
theorem SortS.le {D : Int → Int} {l : List Int} {a b : Nat} (h : SortS D l a b) {i j : Nat} (h1 : a ≤ i) (h2 : i ≤ j) (h3 : j < b) : D (gx l i) ≤ D (gx l j) := by
  rcases Nat.lt_or_ge i j with h4 | h4
  · exact slt_le (h i j h1 h4 h3)
  · have : i = j := by omega
    subst this; exact Int.le_refl _
/-- After a turn about the middle all on the left stand ahead of all on the right. -/
theorem halves_cross {D : Int → Int} {l t : List Int} {a st m en mid b : Nat} (h1 : SortS D l a m) (h2 : SortS D l m b) (hx : Ahd l a m b) (hr : Rot l t st m en) (ha : a ≤ st) (hsm : st ≤ m) (hme : m ≤ en) (heb : en ≤ b) (hmid : mid + m = st + en)
    (p1 : a < st → en < b → ¬ D (gx l en) < D (gx l (st - 1))) (p2 : st < m → m < en → D (gx l (en - 1)) < D (gx l st)) (p q : Nat) (hp : a ≤ p) (hp2 : p < mid) (hq : mid ≤ q) (hq2 : q < b) : slt D (gx t p) (gx t q) := by
  rw [hr p, hr q, if_neg (c := st ≤ q ∧ q < st + (en - m)) (by omega)]
  by_cases c1 : p < st
  · rw [if_neg (by omega), if_neg (by omega)]
    by_cases c2 : q < en
    · rw [if_pos (by omega)]; exact h1 _ _ hp (by omega) (by omega)
    · rw [if_neg (by omega)]
      have e1 := p1 (by omega) (by omega)
      have e2 := hx (st - 1) en (by omega) (by omega) hme (by omega)
      have e3 : slt D (gx l (st - 1)) (gx l en) := by unfold slt; omega
      have e4 : slt D (gx l p) (gx l en) := by
        rcases Nat.lt_or_ge p (st - 1) with h | h
        · exact slt_trans (h1 p (st - 1) hp h (by omega)) e3
        · have : p = st - 1 := by omega
          subst this; exact e3
      rcases Nat.lt_or_ge en q with h | h
      · exact slt_trans e4 (h2 en q hme h hq2)
      · have : q = en := by omega
        subst this; exact e4
  · rw [if_pos (by omega)]
    by_cases c2 : q < en
    · rw [if_pos (by omega)]
      have e1 := p2 (by omega) (by omega)
      have e2 := h2.le (i := p + (m - st)) (j := en - 1) (by omega) (by omega) (by omega)
      have e3 := h1.le (i := st) (j := q - (en - m)) (by omega) (by omega) (by omega)
      exact .inl (by omega)
    · rw [if_neg (by omega)]; exact h2 _ _ (by omega) (by omega) hq2
theorem halves_left {D : Int → Int} {l t : List Int} {a st m en mid b : Nat} (h1 : SortS D l a m) (h2 : SortS D l m b) (hx : Ahd l a m b) (hr : Rot l t st m en) (ha : a ≤ st) (hsm : st ≤ m) (hme : m ≤ en) (heb : en ≤ b) (hmid : mid + m = st + en) :
    SortS D t a st ∧ SortS D t st mid ∧ Ahd t a st mid := by
  refine ⟨fun i j i1 i2 i3 => ?_, fun i j i1 i2 i3 => ?_, fun i j i1 i2 i3 i4 => ?_⟩
  · rw [hr i, hr j, if_neg (by omega), if_neg (by omega), if_neg (by omega), if_neg (by omega)]; exact h1 i j i1 i2 (by omega)
  · rw [hr i, hr j, if_pos (by omega), if_pos (by omega)]; exact h2 _ _ (by omega) (by omega) (by omega)
  · rw [hr i, hr j, if_neg (by omega), if_neg (by omega), if_pos (by omega)]; exact hx _ _ i1 (by omega) (by omega) (by omega)
theorem halves_right {D : Int → Int} {l t : List Int} {a st m en mid b : Nat} (h1 : SortS D l a m) (h2 : SortS D l m b) (hx : Ahd l a m b) (hr : Rot l t st m en) (ha : a ≤ st) (hsm : st ≤ m) (hme : m ≤ en) (heb : en ≤ b) (hmid : mid + m = st + en) :
    SortS D t mid en ∧ SortS D t en b ∧ Ahd t mid en b := by
  refine ⟨fun i j i1 i2 i3 => ?_, fun i j i1 i2 i3 => ?_, fun i j i1 i2 i3 i4 => ?_⟩
  · rw [hr i, hr j, if_neg (by omega), if_pos (by omega), if_neg (by omega), if_pos (by omega)]; exact h1 _ _ (by omega) (by omega) (by omega)
  · rw [hr i, hr j, if_neg (by omega), if_neg (by omega), if_neg (by omega), if_neg (by omega)]; exact h2 _ _ (by omega) (by omega) (by omega)
  · rw [hr i, hr j, if_neg (by omega), if_pos (by omega), if_neg (by omega), if_neg (by omega)]; exact hx _ _ (by omega) (by omega) (by omega) (by omega)
theorem halves_join {D : Int → Int} {t t1 t2 : List Int} {a mid b : Nat} (hc : ∀ p q, a ≤ p → p < mid → mid ≤ q → q < b → slt D (gx t p) (gx t q))
    (m1 : Mv t t1 a mid) (m2 : Mv t1 t2 mid b) (s1 : SortS D t1 a mid) (s2 : SortS D t2 mid b) : SortS D t2 a b := by
  intro p q hp hpq hq
  by_cases c1 : q < mid
  · rw [m2.out p (by omega), m2.out q (by omega)]; exact s1 p q hp hpq c1
  · by_cases c2 : mid ≤ p
    · exact s2 p q c2 hpq hq
    · rw [m2.out p (by omega)]
      obtain ⟨p', h1, h2, e1⟩ := m1.inn p hp (by omega)
      obtain ⟨q', h3, h4, e2⟩ := m2.inn q (by omega) hq
      rw [e1, e2, m1.out q' (by omega)]
      exact hc p' q' h1 h2 h3 h4
theorem Rot.self {l : List Int} {a m b : Nat} (h : a ≥ m ∨ m ≥ b) : Rot l l a m b := fun x => by
  by_cases h1 : a ≤ x ∧ x < a + (b - m)
  · rw [if_pos h1]; congr 1; omega
  · rw [if_neg h1]
    by_cases h2 : a + (b - m) ≤ x ∧ x < b
    · rw [if_pos h2]; congr 1; omega
    · rw [if_neg h2]
/-- What stands between two places stood there ahead, too. -/
def MvI (l0 l : List Int) (a b : Nat) : Prop := ∀ i, a ≤ i → i < b → ∃ j, a ≤ j ∧ j < b ∧ gx l i = gx l0 j
def AscS (l0 : List Int) (n : Nat) : Prop := ∀ i j, i < j → j < n → gx l0 i < gx l0 j
/-- So many blocks are sorted. -/
def Bks (D : Int → Int) (l0 l : List Int) (S K : Nat) : Prop := ∀ k, k < K → SortS D l (k * S) (k * S + S) ∧ MvI l0 l (k * S) (k * S + S)
/-- All blocks are sorted. -/
def Bkd (D : Int → Int) (l0 l : List Int) (S n : Nat) : Prop := ∀ k, k * S < n → SortS D l (k * S) (min (k * S + S) n) ∧ MvI l0 l (k * S) (min (k * S + S) n)
theorem Bks.zero {D : Int → Int} {l0 l : List Int} {S : Nat} : Bks D l0 l S 0 := fun k hk => absurd hk (Nat.not_lt_zero _)
set_option maxHeartbeats 4000000 in
theorem mul_lt_step {k K S : Nat} (h : k < K) : k * S + S ≤ K * S := by
  have := Nat.mul_le_mul_right S (show k + 1 ≤ K from h)
  rwa [Nat.succ_mul] at this
theorem MvI.same {l0 l l' : List Int} {a b : Nat} (h : MvI l0 l a b) (he : ∀ i, a ≤ i → i < b → gx l' i = gx l i) : MvI l0 l' a b := fun i h1 h2 => by
  rw [he i h1 h2]; exact h i h1 h2
theorem Bks.step {D : Int → Int} {l0 l l' : List Int} {S K : Nat} (h : Bks D l0 l S K) (hm : ∀ i, i < K * S → gx l' i = gx l i) (hs : SortS D l' (K * S) (K * S + S)) (hi : MvI l0 l' (K * S) (K * S + S)) : Bks D l0 l' S (K + 1) := by
  intro k hk
  rcases Nat.lt_or_ge k K with h1 | h1
  · have h2 := mul_lt_step (S := S) h1
    obtain ⟨e1, e2⟩ := h k h1
    exact ⟨e1.mv fun i i1 i2 => hm i (by omega), e2.same fun i i1 i2 => hm i (by omega)⟩
  · have : k = K := by omega
    subst this; exact ⟨hs, hi⟩
theorem Bks.done {D : Int → Int} {l0 l l' : List Int} {S K n : Nat} (h : Bks D l0 l S K) (hm : ∀ i, i < K * S → gx l' i = gx l i) (hs : SortS D l' (K * S) n) (hi : MvI l0 l' (K * S) n) (h1 : n ≤ K * S + S) (h2 : K * S ≤ n) : Bkd D l0 l' S n := by
  intro k hk
  rcases Nat.lt_or_ge k K with h3 | h3
  · have h4 := mul_lt_step (S := S) h3
    rw [Nat.min_eq_left (by omega)]
    obtain ⟨e1, e2⟩ := h k h3
    exact ⟨e1.mv fun i i1 i2 => hm i (by omega), e2.same fun i i1 i2 => hm i (by omega)⟩
  · have : k = K := by
      rcases Nat.lt_or_ge K k with h5 | h5
      · have := mul_lt_step (S := S) h5; omega
      · omega
    subst this
    rw [Nat.min_eq_right h1]
    exact ⟨hs, hi⟩
/-- Two blocks of a row that stands as it stood from the first of them on. -/
theorem Bkd.two {D : Int → Int} {l0 ls l : List Int} {S K n : Nat} (h : Bkd D l0 ls S n) (ha : AscS l0 n) (he : ∀ i, K * (2 * S) ≤ i → gx l i = gx ls i) {b : Nat} (hb : b = min (K * (2 * S) + 2 * S) n) (hm : K * (2 * S) + S < n) (hS : 0 < S) :
    SortS D l (K * (2 * S)) (K * (2 * S) + S) ∧ SortS D l (K * (2 * S) + S) b ∧ Ahd l (K * (2 * S)) (K * (2 * S) + S) b ∧ MvI l0 l (K * (2 * S)) b := by
  have e1 : (2 * K) * S = K * (2 * S) := by rw [Nat.mul_comm 2 K, Nat.mul_assoc]
  have e2 : (2 * K + 1) * S = K * (2 * S) + S := by rw [Nat.succ_mul, e1]
  obtain ⟨s1, m1⟩ := h (2 * K) (by omega)
  obtain ⟨s2, m2⟩ := h (2 * K + 1) (by omega)
  rw [e1, Nat.min_eq_left (by omega)] at s1 m1
  rw [e2, show min (K * (2 * S) + S + S) n = b by rw [hb]; congr 1; omega] at s2 m2
  have hbn : b ≤ n := by omega
  have hbm : K * (2 * S) + S ≤ b := by omega
  generalize K * (2 * S) = A at *
  refine ⟨s1.mv fun i i1 _ => he i i1, s2.mv fun i i1 _ => he i (by omega), fun p q p1 p2 q1 q2 => ?_, fun i i1 i2 => ?_⟩
  · obtain ⟨p', a1, a2, x1⟩ := m1 p p1 p2
    obtain ⟨q', b1, b2, x2⟩ := m2 q q1 q2
    rw [he p p1, he q (by omega), x1, x2]
    exact ha p' q' (by omega) (by omega)
  · rw [he i i1]
    by_cases hc : i < A + S
    · obtain ⟨j, a1, a2, x1⟩ := m1 i i1 hc; exact ⟨j, a1, by omega, x1⟩
    · obtain ⟨j, a1, a2, x1⟩ := m2 i (by omega) i2; exact ⟨j, by omega, a2, x1⟩
theorem Bkd.one {D : Int → Int} {l0 ls l : List Int} {S K n : Nat} (h : Bkd D l0 ls S n) (he : ∀ i, K * (2 * S) ≤ i → gx l i = gx ls i) (hm : n ≤ K * (2 * S) + S) :
    SortS D l (K * (2 * S)) n ∧ MvI l0 l (K * (2 * S)) n := by
  have e1 : (2 * K) * S = K * (2 * S) := by rw [Nat.mul_comm 2 K, Nat.mul_assoc]
  rcases Nat.lt_or_ge (K * (2 * S)) n with hlt | hge
  · obtain ⟨s1, m1⟩ := h (2 * K) (by omega)
    rw [e1, Nat.min_eq_right (by omega)] at s1 m1
    exact ⟨s1.mv fun i i1 _ => he i i1, m1.same fun i i1 _ => he i i1⟩
  · exact ⟨fun i j i1 i2 i3 => by omega, fun i i1 i2 => by omega⟩
theorem MvI.mv {l0 l l' : List Int} {a b : Nat} (h : MvI l0 l a b) (hm : Mv l l' a b) : MvI l0 l' a b := fun i i1 i2 => by
  obtain ⟨j, j1, j2, e⟩ := hm.inn i i1 i2
  obtain ⟨k, k1, k2, e2⟩ := h j j1 j2
  exact ⟨k, k1, k2, by rw [e, e2]⟩
/-- There is one such order alone. -/
theorem slt_unique {D : Int → Int} : ∀ {l l' : List Int}, l.Perm l' → l.Pairwise (slt D) → l'.Pairwise (slt D) → l = l'
  | [], l', h, _, _ => by rw [List.nil_perm.1 h]
  | x :: t, [], h, _, _ => by simp at h
  | x :: t, y :: t', h, h1, h2 => by
    have hxy : x = y := by
      have m1 := h.mem_iff.1 (List.mem_cons_self (a := x) (l := t))
      have m2 := h.mem_iff.2 (List.mem_cons_self (a := y) (l := t'))
      rcases List.mem_cons.1 m1 with e | m1
      · exact e
      · rcases List.mem_cons.1 m2 with e | m2
        · exact e.symm
        · exact absurd ((List.pairwise_cons.1 h1).1 y m2) (slt_asym ((List.pairwise_cons.1 h2).1 x m1))
    subst hxy
    rw [slt_unique (List.perm_cons x |>.1 h) (List.pairwise_cons.1 h1).2 (List.pairwise_cons.1 h2).2]
theorem SortS.pw {D : Int → Int} {l : List Int} (h : SortS D l 0 l.length) : l.Pairwise (slt D) := by
  rw [List.pairwise_iff_getElem]
  intro i j hi hj hij
  rw [gx_el hi, gx_el hj]
  exact h i j (Nat.zero_le _) hij hj
/-- A number is put behind those that are not greater. -/
def putG (D : Int → Int) (x : Int) : List Int → List Int
  | [] => [x]
  | y :: t => if D y > D x then x :: y :: t else y :: putG D x t
/-- The indices of a row, as its numbers ascend. -/
def grdG (D : Int → Int) : Nat → List Int
  | 0 => []
  | n + 1 => putG D n (grdG D n)
theorem putG_perm {D : Int → Int} {x : Int} : ∀ {l : List Int}, (putG D x l).Perm (x :: l)
  | [] => List.Perm.refl _
  | y :: t => by
    unfold putG
    split
    · exact List.Perm.refl _
    · exact ((putG_perm (l := t)).cons y).trans (List.Perm.swap _ _ _)
theorem putG_pw {D : Int → Int} {x : Int} : ∀ {l : List Int}, l.Pairwise (slt D) → (∀ y ∈ l, y < x) → (putG D x l).Pairwise (slt D)
  | [], _, _ => by simp [putG]
  | y :: t, h, hx => by
    obtain ⟨h1, h2⟩ := List.pairwise_cons.1 h
    unfold putG
    split
    · rename_i hc
      refine List.pairwise_cons.2 ⟨fun z hz => ?_, h⟩
      rcases List.mem_cons.1 hz with rfl | hz
      · exact .inl hc
      · have := slt_le (h1 z hz); exact .inl (by omega)
    · rename_i hc
      refine List.pairwise_cons.2 ⟨fun z hz => ?_, putG_pw h2 fun z hz => hx z (List.mem_cons_of_mem _ hz)⟩
      rcases List.mem_cons.1 (putG_perm.mem_iff.1 hz) with rfl | hz
      · have := hx y (List.mem_cons_self ..); unfold slt; omega
      · exact h1 z hz
theorem grdG_perm {D : Int → Int} : ∀ {n : Nat}, (grdG D n).Perm ((List.range n).map fun i : Nat => (i : Int))
  | 0 => by simp [grdG]
  | n + 1 => by
    rw [List.range_succ, List.map_append]
    exact (putG_perm.trans ((grdG_perm (n := n)).cons _)).trans (List.perm_append_singleton _ _).symm
theorem grdG_mem {D : Int → Int} {n : Nat} {y : Int} (h : y ∈ grdG D n) : 0 ≤ y ∧ y < n := by
  have := grdG_perm.mem_iff.1 h
  simp at this
  obtain ⟨i, hi, rfl⟩ := this
  omega
theorem grdG_len {D : Int → Int} {n : Nat} : (grdG D n).length = n := by rw [grdG_perm.length_eq]; simp
theorem grdG_pw {D : Int → Int} : ∀ {n : Nat}, (grdG D n).Pairwise (slt D)
  | 0 => by simp [grdG]
  | n + 1 => putG_pw grdG_pw fun y hy => (grdG_mem hy).2
theorem grdG_eq {D : Int → Int} {n : Nat} {l : List Int} (hp : l.Perm ((List.range n).map fun i : Nat => (i : Int))) (hs : SortS D l 0 n) : l = grdG D n := by
  have hl : l.length = n := by rw [hp.length_eq]; simp
  refine slt_unique (hp.trans grdG_perm.symm) (SortS.pw (by rw [hl]; exact hs)) grdG_pw

/-- A heap that is as it was, but for a row that was moved. -/
structure SR (G : AH) (b o : Nat) (l0 l : List Int) (H : AH) : Prop where
  len : H.length = G.length
  keep : ∀ j, j ≠ b → H[j]? = G[j]?
  perm : l.Perm l0
  row : ∃ cs, H[b]? = some ⟨cs, .own⟩ ∧ o + l.length ≤ cs.length ∧ ∀ k x, l[k]? = some x → cs[o + k]? = some (.int .i64 x)
def cmpI (a b : Int) : Int := if a < b then -1 else if a > b then 1 else 0
theorem cmpI_lt {a b : Int} : decide (cmpI a b < 0) = decide (a < b) := by
  unfold cmpI
  by_cases h : a < b
  · rw [if_pos h]; simp [h]
  · rw [if_neg h]; split <;> simp [h]
structure CmpOk (P : Program) (g : FuncId) (cap : Value) (G : AH) (b o : Nat) (l0 : List Int) (D : Int → Int) : Prop where
  call : ∀ l H, SR G b o l0 l H → ∀ x ∈ l0, ∀ y ∈ l0, ∀ Φ, CallsA P g #[.int .i64 x, .int .i64 y, cap] H Φ = Φ (.int .i64 (cmpI (D x) (D y))) H
theorem arr21 {a c d : Value} : (#[a, c] ++ #[d] : Array Value) = #[a, c, d] := rfl
theorem SR.lenl {G : AH} {b o : Nat} {l0 l : List Int} {H : AH} (h : SR G b o l0 l H) : l.length = l0.length := h.perm.length_eq
theorem SR.mem {G : AH} {b o : Nat} {l0 l : List Int} {H : AH} (h : SR G b o l0 l H) {i : Nat} (hi : i < l0.length) : gx l i ∈ l0 := by
  have h1 : i < l.length := by rw [h.lenl]; exact hi
  rw [← h.perm.mem_iff]
  exact List.mem_of_getElem? (gx_get h1)
theorem SR.get {G : AH} {b o : Nat} {l0 l : List Int} {H : AH} (h : SR G b o l0 l H) : ∃ cs, H[b]? = some ⟨cs, .own⟩ ∧ o + l0.length ≤ cs.length ∧ ∀ k, k < l0.length → cs[o + k]? = some (.int .i64 (gx l k)) := by
  obtain ⟨cs, h1, h2, h3⟩ := h.row
  have := h.lenl
  exact ⟨cs, h1, by omega, fun k hk => h3 k _ (gx_get (by omega))⟩
theorem SR.swap {G : AH} {b o : Nat} {l0 l : List Int} {H : AH} {cs : List Value} (h : SR G b o l0 l H) (hb : H[b]? = some ⟨cs, .own⟩) {i j : Nat} (hi : i < l0.length) (hj : j < l0.length) :
    SR G b o l0 (swp l i j) (H.set b ⟨(cs.set (o + i) (.int .i64 (gx l j))).set (o + j) (.int .i64 (gx l i)), .own⟩) := by
  have hl := h.lenl
  obtain ⟨cs', h1, h2, h3⟩ := h.row
  rw [hb] at h1
  obtain rfl : cs = cs' := by injection h1 with h1; injection h1
  refine ⟨by rw [List.length_set]; exact h.len, fun k hk => by rw [List.getElem?_set_ne (fun e => hk e.symm)]; exact h.keep k hk, (swp_perm (by omega) (by omega)).trans h.perm, _, set_at hb, by simp [swp]; omega, fun k x hx => ?_⟩
  have hk : k < (swp l i j).length := (List.getElem?_eq_some_iff.1 hx).1
  have e := gx_of hx
  rw [gx_swp (by omega) (by omega)] at e
  rw [swp_len] at hk
  by_cases e1 : k = j
  · subst e1
    rw [List.getElem?_set_self (by simp; omega)]
    rw [if_pos rfl] at e; rw [e]
  · rw [List.getElem?_set_ne (by omega)]
    rw [if_neg e1] at e
    by_cases e2 : k = i
    · subst e2
      rw [List.getElem?_set_self (by omega)]
      rw [if_pos rfl] at e; rw [e]
    · rw [List.getElem?_set_ne (by omega)]
      rw [if_neg e2] at e
      rw [h3 k _ (gx_get hk), e]

set_option maxHeartbeats 4000000 in
theorem swapRange_ok {G H : AH} {b o : Nat} {l0 l : List Int} {f : Value} (h : SR G b o l0 l H) (hn : l0.length ≤ 1048576) {p q m : Nat} (hpq : p + m ≤ q) (hq : q + m ≤ l0.length) :
    CallsA Try.prog 129 #[.slice (some ⟨b, o, none⟩) l0.length 1, .int .i64 p, .int .i64 q, .int .i64 m, f] H fun r H' => ∃ l', SR G b o l0 l' H' ∧ Swr l l' p q m ∧ Mv l l' p (q + m) := by
  refine w129 ?_
  unfold k129
  simp -implicitDefEqProofs only [kz, kk0, kk1, kk2, kk3, ↓two_true, ↓two_false, oS_some, oM_some, mkv, aggAt, Nat.reduceLeDiff, Nat.reduceSub, Nat.reduceMul, implies_true, Nat.reduceEqDiff, reduceIte, Nat.reduceAdd, Nat.reduceBEq, reduceCtorEq, ix24, ld3, st3]
  refine rW_loop (σ := Nat × List Int) (fun (k, l') tm H' => tm 0 = .slice (some ⟨b, o, none⟩) l0.length 1 ∧ tm 1 = .int .i64 p ∧ tm 2 = .int .i64 q ∧ tm 3 = .int .i64 m ∧ tm 10 = .int .i64 k ∧ k ≤ m ∧ SR G b o l0 l' H' ∧ Swr l l' p q k ∧ Mv l l' p (q + m)) (fun s => m - s.1) (0, l) ?_ ?_
  · simp -implicitDefEqProofs [kk0, kk1, kk2, kk3, rW_block, ↓two_true, ↓two_false, rW_cond, rO_guard, oS_some, oM_some, mkv, aggAt, Nat.reduceLeDiff, Nat.reduceSub, Nat.reduceMul, cond_true, cond_false, Option.bind_some, List.length_append, List.length_cons, List.length_nil, List.append_assoc, List.cons_append, List.nil_append, List.set_cons_zero, List.set_cons_succ, List.size_toArray, List.all_cons, List.all_nil, List.drop_zero, List.drop_succ_cons, List.take_succ_cons, List.take_zero, List.mem_cons, Prod.mk.injEq, List.not_mem_nil, implies_true, List.getElem?_toArray, List.getElem?_cons_zero, List.getElem?_cons_succ, List.getElem?_nil, Option.getD_some, Option.getD_none, Nat.reduceEqDiff, reduceIte, Nat.reduceAdd, List.map_toArray, List.map_cons, List.map_nil, Bool.false_eq_true, Nat.reduceBEq, Option.map_some, Option.map_none, reduceCtorEq, ix24, ld3, st3]
    exact ⟨h, Swr.zero, Mv.refl⟩
  · rintro ⟨k, l'⟩ tm H1 ⟨h0, h1, h2, h3, h10, hk, hs, hw, hm⟩
    simp -implicitDefEqProofs only [kz, kk0, kk1, kk2, kk3, ↓two_true, ↓two_false, oS_some, oM_some, mkv, aggAt, Nat.reduceLeDiff, Nat.reduceSub, Nat.reduceMul, implies_true, Nat.reduceEqDiff, reduceIte, Nat.reduceAdd, Nat.reduceBEq, reduceCtorEq, ix24, ld3, st3, h0, h1, h2, h3, h10]
    refine two_intro (fun hc => ?_) (fun hc => ?_)
    · have hlt : k < m := by simpa using hc
      obtain ⟨cs, hb, hle, hcell⟩ := hs.get
      have w1 : IntKind.i64.wrap ((p : Int) + k) = ((p + k : Nat) : Int) := by rw [IntWalk.i64_in _ (by omega)]; omega
      have w2 : IntKind.i64.wrap ((q : Int) + k) = ((q + k : Nat) : Int) := by rw [IntWalk.i64_in _ (by omega)]; omega
      have w3 : IntKind.i64.wrap ((k : Int) + 1) = ((k + 1 : Nat) : Int) := by rw [IntWalk.i64_in _ (by omega)]; omega
      simp -implicitDefEqProofs only [kz, kk0, kk1, kk2, kk3, ↓two_true, ↓two_false, oS_some, oM_some, mkv, aggAt, Nat.reduceLeDiff, Nat.reduceSub, Nat.reduceMul, implies_true, Nat.reduceEqDiff, reduceIte, Nat.reduceAdd, Nat.reduceBEq, reduceCtorEq, ix24, ld3, st3, h0, h1, h2, h3, h10, Int.toNat_natCast, Nat.mul_one, w1, w2, w3, rd_own hb, wrt_own hb, wrt_own (set_at hb), hcell (p + k) (by omega), hcell (q + k) (by omega)]
      refine ⟨by omega, by omega, by omega, by omega, by omega, by rw [List.length_set]; omega, (k + 1, swp l' (p + k) (q + k)), by simp only; omega, rfl, hlt, ?_, hw.step (by omega) (by rw [hs.lenl]; omega), hm.trans (Mv.swp (by omega) (by omega) (by omega) (by omega) (by rw [hs.lenl]; omega))⟩
      rw [list_set_set]
      exact hs.swap hb (by omega) (by omega)
    · have : k = m := by have : ¬ k < m := by simpa using hc
                         omega
      subst this
      exact ⟨l', hs, hw, hm⟩

set_option maxHeartbeats 4000000 in
theorem rotate_ok {G H : AH} {b o : Nat} {l0 l : List Int} {f : Value} (h : SR G b o l0 l H) (hn : l0.length ≤ 1048576) {x m y : Nat} (hxm : x < m) (hmy : m < y) (hy : y ≤ l0.length) :
    CallsA Try.prog 124 #[.slice (some ⟨b, o, none⟩) l0.length 1, .int .i64 x, .int .i64 m, .int .i64 y, f] H fun r H' => ∃ l', SR G b o l0 l' H' ∧ Rot l l' x m y ∧ Mv l l' x y := by
  have w1 : IntKind.i64.wrap ((m : Int) - x) = ((m - x : Nat) : Int) := by rw [IntWalk.i64_in _ (by omega)]; omega
  have w2 : IntKind.i64.wrap ((y : Int) - m) = ((y - m : Nat) : Int) := by rw [IntWalk.i64_in _ (by omega)]; omega
  refine w124 ?_
  unfold k124
  simp -implicitDefEqProofs only [kz, kk0, kk1, kk2, kk3, ↓two_true, ↓two_false, oS_some, oM_some, mkv, aggAt, Nat.reduceLeDiff, Nat.reduceSub, Nat.reduceMul, implies_true, Nat.reduceEqDiff, reduceIte, Nat.reduceAdd, Nat.reduceBEq, reduceCtorEq, w1, w2]
  refine rW_loop (σ := Nat × Nat × List Int) (fun (i, j, l') tm H' => tm 0 = .slice (some ⟨b, o, none⟩) l0.length 1 ∧ tm 2 = .int .i64 m ∧ tm 4 = f ∧ tm 10 = .int .i64 i ∧ tm 11 = .int .i64 j ∧ 0 < i ∧ 0 < j ∧ x + i ≤ m ∧ m + j ≤ y ∧ SR G b o l0 l' H' ∧ Mv l l' x y ∧ ∀ t, Rot l' t (m - i) m (m + j) → Rot l t x m y) (fun s => s.1 + s.2.1) (m - x, y - m, l) ?_ ?_
  · simp -implicitDefEqProofs [kk0, kk1, kk2, kk3, rW_block, ↓two_true, ↓two_false, rW_cond, rO_guard, oS_some, oM_some, mkv, aggAt, Nat.reduceLeDiff, Nat.reduceSub, Nat.reduceMul, cond_true, cond_false, Option.bind_some, List.length_append, List.length_cons, List.length_nil, List.append_assoc, List.cons_append, List.nil_append, List.set_cons_zero, List.set_cons_succ, List.size_toArray, List.all_cons, List.all_nil, List.drop_zero, List.drop_succ_cons, List.take_succ_cons, List.take_zero, List.mem_cons, Prod.mk.injEq, List.not_mem_nil, implies_true, List.getElem?_toArray, List.getElem?_cons_zero, List.getElem?_cons_succ, List.getElem?_nil, Option.getD_some, Option.getD_none, Nat.reduceEqDiff, reduceIte, Nat.reduceAdd, List.map_toArray, List.map_cons, List.map_nil, Bool.false_eq_true, Nat.reduceBEq, Option.map_some, Option.map_none, reduceCtorEq]
    exact ⟨by omega, by omega, by omega, by omega, h, Mv.refl, fun t ht => by rw [show m - (m - x) = x by omega, show m + (y - m) = y by omega] at ht; exact ht⟩
  · rintro ⟨i, j, l'⟩ tm H1 ⟨h0, h2, h4, h10, h11, hi, hj, hxi, hjy, hs, hm, hr⟩
    have w3 : IntKind.i64.wrap ((m : Int) - i) = ((m - i : Nat) : Int) := by rw [IntWalk.i64_in _ (by omega)]; omega
    have w4 : IntKind.i64.wrap ((i : Int) - j) = (i : Int) - j := IntWalk.i64_in _ (by omega)
    have w5 : IntKind.i64.wrap ((j : Int) - i) = (j : Int) - i := IntWalk.i64_in _ (by omega)
    have w6 : IntKind.i64.wrap ((m : Int) + j) = ((m + j : Nat) : Int) := by rw [IntWalk.i64_in _ (by omega)]; omega
    have w7 : IntKind.i64.wrap (((m + j : Nat) : Int) - i) = ((m + j - i : Nat) : Int) := by rw [IntWalk.i64_in _ (by omega)]; omega
    simp -implicitDefEqProofs only [kz, kk0, kk1, kk2, kk3, ↓two_true, ↓two_false, oS_some, oM_some, mkv, aggAt, Nat.reduceLeDiff, Nat.reduceSub, Nat.reduceMul, implies_true, Nat.reduceEqDiff, reduceIte, Nat.reduceAdd, Nat.reduceBEq, reduceCtorEq, h0, h2, h4, h10, h11, w3, w6, w7]
    refine two_intro (fun hc => ?_) (fun hc => ?_)
    · have hne : i ≠ j := fun e => by subst e; simp at hc
      refine two_intro (fun hg => ?_) (fun hg => ?_)
      · have hij : j < i := by simpa using hg
        refine (swapRange_ok hs hn (p := m - i) (q := m) (m := j) (by omega) (by omega)).mono ?_
        rintro _ H2 ⟨l2, s2, sw, m2⟩
        simp -implicitDefEqProofs only [kz, kk0, kk1, kk2, kk3, ↓two_true, ↓two_false, oS_some, oM_some, mkv, aggAt, Nat.reduceLeDiff, Nat.reduceSub, Nat.reduceMul, implies_true, Nat.reduceEqDiff, reduceIte, Nat.reduceAdd, Nat.reduceBEq, reduceCtorEq, h0, h2, h4, h10, h11, w4]
        refine ⟨(i - j, j, l2), by simp only; omega, by simp only; congr 1; omega, rfl, by simp only; omega, hj, by simp only; omega, hjy, s2, hm.trans (m2.wide (by omega) (by omega)), fun t ht => hr t (Rot.left (by omega) hij sw ?_)⟩
        simp only at ht
        rw [show m - i + j = m - (i - j) by omega]; exact ht
      · have hij : i < j := by have : ¬ j < i := by simpa using hg
                               omega
        refine (swapRange_ok hs hn (p := m - i) (q := m + j - i) (m := i) (by omega) (by omega)).mono ?_
        rintro _ H2 ⟨l2, s2, sw, m2⟩
        simp -implicitDefEqProofs only [kz, kk0, kk1, kk2, kk3, ↓two_true, ↓two_false, oS_some, oM_some, mkv, aggAt, Nat.reduceLeDiff, Nat.reduceSub, Nat.reduceMul, implies_true, Nat.reduceEqDiff, reduceIte, Nat.reduceAdd, Nat.reduceBEq, reduceCtorEq, h0, h2, h4, h10, h11, w5]
        exact ⟨(i, j - i, l2), by simp only; omega, rfl, by simp only; congr 1; omega, hi, by simp only; omega, hxi, by simp only; omega, s2, hm.trans (m2.wide (by omega) (by omega)), fun t ht => hr t (Rot.right (by omega) hij sw ht)⟩
    · have hij : i = j := by have := bne_eq_false_iff_eq.1 hc; omega
      subst hij
      refine (swapRange_ok hs hn (p := m - i) (q := m) (m := i) (by omega) (by omega)).mono ?_
      rintro _ H2 ⟨l2, s2, sw, m2⟩
      simp -implicitDefEqProofs only [kz, kk0, kk1, kk2, kk3, ↓two_true, ↓two_false, oS_some, oM_some, mkv, aggAt, Nat.reduceLeDiff, Nat.reduceSub, Nat.reduceMul, implies_true, Nat.reduceEqDiff, reduceIte, Nat.reduceAdd, Nat.reduceBEq, reduceCtorEq]
      exact ⟨l2, s2, hr _ (Rot.same (by omega) sw), hm.trans (m2.wide (by omega) (by omega))⟩

set_option maxHeartbeats 4000000 in
theorem insSort_ok {G H : AH} {b o : Nat} {l0 l : List Int} {g : FuncId} {cap : Value} {D : Int → Int} (hcmp : CmpOk Try.prog g cap G b o l0 D) (h : SR G b o l0 l H) (hn : l0.length ≤ 1048576) {x y : Nat} (hxy : x ≤ y) (hy : y ≤ l0.length) (ha : ∀ p q, x ≤ p → p < q → q < y → gx l p < gx l q) :
    CallsA Try.prog 103 #[.slice (some ⟨b, o, none⟩) l0.length 1, .int .i64 x, .int .i64 y, .func (.func g) #[] #[cap]] H fun r H' => ∃ l', SR G b o l0 l' H' ∧ SortS D l' x y ∧ Mv l l' x y := by
  have w1 : IntKind.i64.wrap ((x : Int) + 1) = ((x + 1 : Nat) : Int) := by rw [IntWalk.i64_in _ (by omega)]; omega
  refine w103 ?_
  unfold k103
  simp -implicitDefEqProofs only [kz, kk0, kk1, kk2, kk3, ↓two_true, ↓two_false, oS_some, oM_some, mkv, aggAt, Nat.reduceLeDiff, Nat.reduceSub, Nat.reduceMul, implies_true, Nat.reduceEqDiff, reduceIte, Nat.reduceAdd, Nat.reduceBEq, reduceCtorEq, ix24, ld3, st3, w1]
  refine rW_loop (σ := Nat × List Int) (fun (i, l') tm H' => tm 0 = .slice (some ⟨b, o, none⟩) l0.length 1 ∧ tm 1 = .int .i64 x ∧ tm 2 = .int .i64 y ∧ tm 3 = .func (.func g) #[] #[cap] ∧ tm 8 = .int .i64 i ∧ x + 1 ≤ i ∧ (i ≤ y ∨ i = x + 1) ∧ SR G b o l0 l' H' ∧ SortS D l' x (min i y) ∧ Mv l l' x (min i y)) (fun s => y - s.1) (x + 1, l) ?_ ?_
  · simp -implicitDefEqProofs [kk0, kk1, kk2, kk3, rW_block, ↓two_true, ↓two_false, rW_cond, rO_guard, oS_some, oM_some, mkv, aggAt, Nat.reduceLeDiff, Nat.reduceSub, Nat.reduceMul, cond_true, cond_false, Option.bind_some, List.length_append, List.length_cons, List.length_nil, List.append_assoc, List.cons_append, List.nil_append, List.set_cons_zero, List.set_cons_succ, List.size_toArray, List.all_cons, List.all_nil, List.drop_zero, List.drop_succ_cons, List.take_succ_cons, List.take_zero, List.mem_cons, Prod.mk.injEq, List.not_mem_nil, implies_true, List.getElem?_toArray, List.getElem?_cons_zero, List.getElem?_cons_succ, List.getElem?_nil, Option.getD_some, Option.getD_none, Nat.reduceEqDiff, reduceIte, Nat.reduceAdd, List.map_toArray, List.map_cons, List.map_nil, Bool.false_eq_true, Nat.reduceBEq, Option.map_some, Option.map_none, reduceCtorEq, ix24, ld3, st3]
    exact ⟨h, fun i j i1 i2 i3 => by omega, Mv.refl⟩
  · rintro ⟨i, l'⟩ tm H1 ⟨h0, h1, h2, h3, h8, hxi, hiy, hs, hso, hm⟩
    simp -implicitDefEqProofs only [kz, kk0, kk1, kk2, kk3, ↓two_true, ↓two_false, oS_some, oM_some, mkv, aggAt, Nat.reduceLeDiff, Nat.reduceSub, Nat.reduceMul, implies_true, Nat.reduceEqDiff, reduceIte, Nat.reduceAdd, Nat.reduceBEq, reduceCtorEq, ix24, ld3, st3, h0, h1, h2, h3, h8]
    refine two_intro (fun hc => ?_) (fun hc => ?_)
    · have hlt : i < y := by simpa using hc
      rw [Nat.min_eq_left (by omega)] at hso hm
      refine rW_loop (σ := Nat × List Int) (fun (j, l') tm H' => tm 0 = .slice (some ⟨b, o, none⟩) l0.length 1 ∧ tm 1 = .int .i64 x ∧ tm 2 = .int .i64 y ∧ tm 3 = .func (.func g) #[] #[cap] ∧ tm 8 = .int .i64 i ∧ tm 9 = .int .i64 j ∧ x ≤ j ∧ j ≤ i ∧ SR G b o l0 l' H' ∧ Ins1 D l' x i j ∧ Mv l l' x (i + 1)) (fun s => s.1) (i, l') ?_ ?_
      · simp -implicitDefEqProofs [kk0, kk1, kk2, kk3, rW_block, ↓two_true, ↓two_false, rW_cond, rO_guard, oS_some, oM_some, mkv, aggAt, Nat.reduceLeDiff, Nat.reduceSub, Nat.reduceMul, cond_true, cond_false, Option.bind_some, List.length_append, List.length_cons, List.length_nil, List.append_assoc, List.cons_append, List.nil_append, List.set_cons_zero, List.set_cons_succ, List.size_toArray, List.all_cons, List.all_nil, List.drop_zero, List.drop_succ_cons, List.take_succ_cons, List.take_zero, List.mem_cons, Prod.mk.injEq, List.not_mem_nil, implies_true, List.getElem?_toArray, List.getElem?_cons_zero, List.getElem?_cons_succ, List.getElem?_nil, Option.getD_some, Option.getD_none, Nat.reduceEqDiff, reduceIte, Nat.reduceAdd, List.map_toArray, List.map_cons, List.map_nil, Bool.false_eq_true, Nat.reduceBEq, Option.map_some, Option.map_none, reduceCtorEq, ix24, ld3, st3, h0, h1, h2, h3, h8]
        refine ⟨by omega, hs, Ins1.start hso fun p p1 p2 => ?_, hm.wide (Nat.le_refl _) (by omega)⟩
        obtain ⟨p', q1, q2, e⟩ := hm.inn p p1 p2
        rw [e, hm.out i (by omega)]
        exact ha p' i q1 q2 hlt
      · rintro ⟨j, l2⟩ tm H2 ⟨h0, h1, h2, h3, h8, h9, hxj, hji, hs2, hin, hm2⟩
        by_cases hj : x < j
        · obtain ⟨k, rfl⟩ : ∃ k, j = k + 1 := ⟨j - 1, by omega⟩
          obtain ⟨cs, hb, hle, hcell⟩ := hs2.get
          have d1 : decide (((k + 1 : Nat) : Int) > x) = true := decide_eq_true (by omega)
          have wk : IntKind.i64.wrap (((k + 1 : Nat) : Int) - 1) = (k : Int) := by rw [IntWalk.i64_in _ (by omega)]; omega
          have ec := hcmp.call l2 H2 hs2 _ (hs2.mem (i := k + 1) (by omega)) _ (hs2.mem (i := k) (by omega))
          simp -implicitDefEqProofs only [kz, kk0, kk1, kk2, kk3, ↓two_true, ↓two_false, oS_some, oM_some, mkv, aggAt, Nat.reduceLeDiff, Nat.reduceSub, Nat.reduceMul, implies_true, Nat.reduceEqDiff, reduceIte, Nat.reduceAdd, Nat.reduceBEq, reduceCtorEq, ix24, ld3, st3, h0, h1, h2, h3, h8, h9, d1, wk, Int.toNat_natCast, Nat.mul_one, rd_own hb, wrt_own hb, wrt_own (set_at hb), hcell (k + 1) (by omega), hcell k (by omega), arr21, Array.empty_append, Array.append_empty, ec, cmpI_lt]
          refine ⟨by omega, by omega, two_intro (fun hd => ?_) (fun hd => ?_)⟩
          · have hd' : D (gx l2 (k + 1)) < D (gx l2 k) := of_decide_eq_true hd
            refine ⟨by omega, by omega, by omega, by omega, by omega, by rw [List.length_set]; omega, (k, swp l2 (k + 1) k), by simp only; omega, rfl, by simp only; omega, by simp only; omega, ?_, hin.step (by omega) hji (by rw [hs2.lenl]; omega) hd', hm2.trans (Mv.swp (by omega) (by omega) (by omega) (by omega) (by rw [hs2.lenl]; omega))⟩
            rw [list_set_set]
            exact hs2.swap hb (by omega) (by omega)
          · have hd' : ¬ D (gx l2 (k + 1)) < D (gx l2 k) := of_decide_eq_false hd
            have wi : IntKind.i64.wrap ((i : Int) + 1) = ((i + 1 : Nat) : Int) := by rw [IntWalk.i64_in _ (by omega)]; omega
            rw [wi]
            exact ⟨(i + 1, l2), by simp only; omega, rfl, by simp only; omega, .inl hlt, hs2, by simp only; rw [Nat.min_eq_left (by omega)]; exact hin.stop (by omega) hji hd', by simp only; rw [Nat.min_eq_left (by omega)]; exact hm2⟩
        · have d1 : decide ((j : Int) > x) = false := decide_eq_false (by omega)
          simp -implicitDefEqProofs only [kz, kk0, kk1, kk2, kk3, ↓two_true, ↓two_false, oS_some, oM_some, mkv, aggAt, Nat.reduceLeDiff, Nat.reduceSub, Nat.reduceMul, implies_true, Nat.reduceEqDiff, reduceIte, Nat.reduceAdd, Nat.reduceBEq, reduceCtorEq, ix24, ld3, st3, h0, h1, h2, h3, h8, h9, d1]
          have hjx : j = x := by omega
          subst hjx
          have wi : IntKind.i64.wrap ((i : Int) + 1) = ((i + 1 : Nat) : Int) := by rw [IntWalk.i64_in _ (by omega)]; omega
          rw [wi]
          exact ⟨(i + 1, l2), by simp only; omega, rfl, by simp only; omega, .inl hlt, hs2, by simp only; rw [Nat.min_eq_left (by omega)]; exact hin.stop0, by simp only; rw [Nat.min_eq_left (by omega)]; exact hm2⟩
    · have hle : y ≤ i := by have : ¬ i < y := by simpa using hc
                             omega
      rw [Nat.min_eq_right hle] at hso hm
      exact ⟨l', hs, hso, hm⟩

theorem half_u {P : Program} {t : TypeId} {x y : Operand} {a : Nat} (h : a < 4611686018427387904) : aBin P .shr t x y (.int .u64 (IntKind.u64.wrap a)) (.int .u64 1) = some (.int .u64 ((a / 2 : Nat) : Int)) := by
  have e : IntKind.u64.wrap (a : Int) = a := by
    have e : IntKind.u64.wrap (a : Int) = ((a : Int) % 18446744073709551616) := by simp [IntKind.wrap, IntKind.bits, IntKind.signed]
    rw [e]; omega
  rw [e, bin_shr (by decide)]
  have e2 : (min (1 : Int).toNat IntKind.u64.bits) = 1 := by decide
  rw [e2]
  congr 2
  have : ((a : Int).fdiv (2 ^ 1)) = (a : Int) / 2 := by rw [Int.fdiv_eq_ediv_of_nonneg _ (by decide)]; rfl
  rw [this]; omega
theorem two_nl {p q : Nat} {R : Prop} (h : decide ((p : Int) < q) = false) : ¬ (p < q ∧ R) := fun ⟨h1, _⟩ => by
  rw [decide_eq_true (Int.ofNat_lt.2 h1)] at h; cases h
theorem two_nr {p q : Nat} {R : Prop} (h : decide ((p : Int) < q) = false) : ¬ (R ∧ p < q) := fun ⟨_, h1⟩ => by
  rw [decide_eq_true (Int.ofNat_lt.2 h1)] at h; cases h
theorem so_of {D : Int → Int} {t : List Int} {x s m : Nat} (q1 : SortS D t x s) (q2 : SortS D t s m) (h : ¬ (x < s ∧ s < m)) (h1 : x ≤ s) (h2 : s ≤ m) : SortS D t x m := by
  by_cases h9 : x = s
  · subst h9; exact q2
  · have : s = m := by omega
    subst this; exact q1
def SymOk (G : AH) (b o : Nat) (l0 : List Int) (g : FuncId) (cap : Value) (D : Int → Int) (d : Nat) : Prop := ∀ (H : AH) (l : List Int) (x m y : Nat), y - x ≤ d → SR G b o l0 l H → x < m → m < y → y ≤ l0.length → SortS D l x m → SortS D l m y → Ahd l x m y →
    CallsA Try.prog 104 #[.slice (some ⟨b, o, none⟩) l0.length 1, .int .i64 x, .int .i64 m, .int .i64 y, .func (.func g) #[] #[cap]] H fun r H' => ∃ l', SR G b o l0 l' H' ∧ SortS D l' x y ∧ Mv l l' x y
end Go.Proofs.Ytpclegiocblpmaa.AM
