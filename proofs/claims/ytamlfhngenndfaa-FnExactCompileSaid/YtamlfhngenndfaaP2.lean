/- What the functions answer, part 2. -/
import Derived.Test.YtamlfhngenndfaaP1
set_option linter.unusedVariables false
set_option linter.unusedSimpArgs false
set_option linter.defProp false
set_option maxRecDepth 100000
/- What the functions answer, part 2. -/
namespace Go.Proofs.Ytamlfhngenndfaa.AM
open Go Go.Proofs.Ytamlfhngenndfaa Go.Proofs
theorem Gro.aown {H0 H : AH} {bx : List (Nat × Blk)} {o : Nat} {sh : Value} {ss : List Int} {a' : Option Addr} {c' : Nat} {l : List Int} (h : Gro H0 bx o sh ss a' c' l H) {b : Nat} {k : Blk} (hb : b < o) (hs : blkOf sh ≠ some b) (h0 : H0.length ≤ b) :
    AOwn H0 (H.set b k) (.agg #[sh, .slice a' l.length c']) ss l sh (.slice a' l.length c') ∧ ∃ K, H.set b k = H0 ++ K := by
  refine ⟨⟨rfl, h.osh.set hs, h.od.set fun e => ?_, fun g h1 h2 => ?_, fun g hg => (h.ns g hg).1, fun g hg => ?_⟩, set_ext h.ext h0⟩
  · have := h.nd _ e; omega
  · have := h.nd _ h2; have := h.ns _ h1; omega
  · have := h.nd _ hg; have := h.n0; omega
theorem ARes.newL {H H' : AH} {r : Value} {R : (List Int × List Int) × Int} (h : ARes H H' r R) (hl : R.1.1.length ≤ 1048576 ∧ R.1.2.length ≤ 1048576) :
    (∃ a c b d, r = .tuple #[.agg #[.slice a R.1.1.length c, .slice b R.1.2.length d], .int .i64 R.2] ∧ NewL H H' (arrL (.slice a R.1.1.length c) (.slice b R.1.2.length d)) (arrV R.1.1 R.1.2)) ∧ ∃ K, H' = H ++ K := by
  obtain ⟨⟨a, c, b, d, e, ao⟩, he⟩ := h
  exact ⟨⟨a, c, b, d, e, ao.newL (by omega) (by omega)⟩, he⟩

/-- Bytes that may be read. -/
def BRow (H : AH) (a : Option Addr) (n c : Nat) : Prop := 0 < n → ∃ b o cs, a = some ⟨b, o, none⟩ ∧ c = 1 ∧ H[b]? = some ⟨cs, .ro⟩ ∧ ∀ j, j < n → ∃ v : Int, cs[o + j]? = some (.int .u8 v) ∧ 0 ≤ v ∧ v ≤ 255
/-- A cursor. -/
def Cur (H : AH) (cb : Nat) : Prop := ∃ (a : Option Addr) (n c i : Nat) (h : Int), H[cb]? = some ⟨[.slice a n c, .int .i64 i, .int .i64 h], .own⟩ ∧ i ≤ n ∧ n ≤ 1048576 ∧ BRow H a n c
structure Frm (cb : Nat) (H H' : AH) : Prop where
  len : H.length ≤ H'.length
  keep : ∀ b, b < H.length → b ≠ cb → H'[b]? = H[b]?
  cur : Cur H' cb
theorem BRow.keep {H H' : AH} {a : Option Addr} {n c cb : Nat} (h : BRow H a n c) (hk : ∀ b, b < H.length → b ≠ cb → H'[b]? = H[b]?) (hc : ∀ cs, H[cb]? ≠ some ⟨cs, .ro⟩) : BRow H' a n c := by
  intro hn
  obtain ⟨b, o, cs, h1, h2, h3, h4⟩ := h hn
  refine ⟨b, o, cs, h1, h2, ?_, h4⟩
  rw [hk b (List.getElem?_eq_some_iff.1 h3).1 (by rintro rfl; exact hc cs h3)]
  exact h3
theorem Cur.lt {H : AH} {cb : Nat} (h : Cur H cb) : cb < H.length := by
  obtain ⟨a, n, c, i, h, h1, _⟩ := h
  exact (List.getElem?_eq_some_iff.1 h1).1
theorem Cur.mono {H L : AH} {cb : Nat} (h : Cur H cb) : Cur (H ++ L) cb := by
  obtain ⟨a, n, c, i, x, h1, h2, h3, h4⟩ := h
  refine ⟨a, n, c, i, x, gtl h1, h2, h3, fun hn => ?_⟩
  obtain ⟨b, o, cs, g1, g2, g3, g4⟩ := h4 hn
  exact ⟨b, o, cs, g1, g2, gtl g3, g4⟩
theorem Frm.trans {cb : Nat} {H H1 H2 : AH} (h : Frm cb H H1) (h' : Frm cb H1 H2) : Frm cb H H2 :=
  ⟨Nat.le_trans h.len h'.len, fun b hb hn => by rw [h'.keep b (Nat.lt_of_lt_of_le hb h.len) hn, h.keep b hb hn], h'.cur⟩
theorem Frm.app {cb : Nat} {H H1 L : AH} (h : Frm cb H H1) : Frm cb H (H1 ++ L) :=
  ⟨by have := h.len; simp; omega, fun b hb hn => by rw [List.getElem?_append_left (Nat.lt_of_lt_of_le hb h.len), h.keep b hb hn], h.cur.mono⟩
theorem Frm.own {cb : Nat} {H H1 : AH} {v : Value} {l : List Int} (h : Frm cb H H1) (ho : OwnRow H v l) (hn : blkOf v ≠ some cb) : OwnRow H1 v l :=
  ho.same fun b hb => h.keep b (ho.lt b hb) (by rintro rfl; exact hn hb)
theorem Frm.at {cb : Nat} {H H1 : AH} {b : Nat} {k : Blk} (h : Frm cb H H1) (hb : H[b]? = some k) (hn : b ≠ cb) : H1[b]? = some k := by
  rw [h.keep b (List.getElem?_eq_some_iff.1 hb).1 hn, hb]
theorem Cur.set {H : AH} {cb b : Nat} {k : Blk} (h : Cur H cb) (hb : ∀ cs, H[b]? ≠ some ⟨cs, .ro⟩) (hn : b ≠ cb) : Cur (H.set b k) cb := by
  obtain ⟨a, n, c, i, x, h1, h2, h3, h4⟩ := h
  refine ⟨a, n, c, i, x, by rw [List.getElem?_set_ne hn]; exact h1, h2, h3, fun hn0 => ?_⟩
  obtain ⟨b', o, cs, g1, g2, g3, g4⟩ := h4 hn0
  refine ⟨b', o, cs, g1, g2, ?_, g4⟩
  rw [List.getElem?_set_ne (by rintro rfl; exact hb cs g3)]
  exact g3
/-- A block behind the heap is written. -/
theorem Frm.set {cb b : Nat} {H H1 : AH} {k : Blk} {cs : List Value} (h : Frm cb H H1) (hb : H1[b]? = some ⟨cs, .own⟩) (hl : H.length ≤ b) (hn : b ≠ cb) : Frm cb H (H1.set b k) :=
  ⟨by rw [List.length_set]; exact h.len, fun g hg hgn => by rw [List.getElem?_set_ne (by omega)]; exact h.keep g hg hgn, h.cur.set (fun cs' e => by rw [hb] at e; cases e) hn⟩

/-- A row of its own, no older than a heap. -/
structure DR (H0 H : AH) (v : Value) (l : List Int) : Prop where
  own : OwnRow H v l
  fr : ∀ b, blkOf v = some b → H0.length ≤ b
theorem OwnRow.new {H : AH} {l : List Int} : OwnRow (H ++ [⟨ints l, .own⟩]) (.slice (some ⟨H.length, 0, none⟩) l.length 1) l :=
  .inr ⟨H.length, 0, ints l, rfl, by rw [gt0]; rfl, by simp [ints], List.take_of_length_le (by simp [ints])⟩
theorem DR.new {H0 H : AH} {l : List Int} (h : H0.length ≤ H.length) : DR H0 (H ++ [⟨ints l, .own⟩]) (.slice (some ⟨H.length, 0, none⟩) l.length 1) l :=
  ⟨OwnRow.new, fun b hb => by simp [blkOf] at hb; omega⟩
theorem DR.mono {H0 H L : AH} {v : Value} {l : List Int} (h : DR H0 H v l) : DR H0 (H ++ L) v l := ⟨h.own.mono, h.fr⟩
theorem DR.ne {H0 H : AH} {cb : Nat} {v : Value} {l : List Int} (h : DR H0 H v l) (hc : cb < H0.length) : blkOf v ≠ some cb := fun e => by have := h.fr _ e; omega
theorem Cur.same {H H' : AH} {cb : Nat} (h : Cur H cb) (h1 : H'[cb]? = H[cb]?) (h2 : ∀ (b : Nat) cs, H[b]? = some (⟨cs, .ro⟩ : Blk) → H'[b]? = some (⟨cs, .ro⟩ : Blk)) : Cur H' cb := by
  obtain ⟨a, n, c, i, x, g1, g2, g3, g4⟩ := h
  refine ⟨a, n, c, i, x, by rw [h1]; exact g1, g2, g3, fun hn => ?_⟩
  obtain ⟨b, o, cs, k1, k2, k3, k4⟩ := g4 hn
  exact ⟨b, o, cs, k1, k2, h2 b cs k3, k4⟩
theorem App.row {H H' : AH} {v v' w : Value} {m : List Int} {H0 : AH} (h : App H v H' v') (hw : DR H0 H w m) (hd : ∀ b, blkOf w = some b → blkOf v ≠ some b) : DR H0 H' w m := ⟨h.own hw.own hd, hw.fr⟩

/-- An array of its own that was drawn. -/
structure DA (H0 H : AH) (p q : Value) (sh dt : List Int) : Prop where
  sh : DR H0 H p sh
  dt : DR H0 H q dt
  dj : Dj p q
theorem DA.mono {H0 H L : AH} {p q : Value} {sh dt : List Int} (h : DA H0 H p q sh dt) : DA H0 (H ++ L) p q sh dt := ⟨h.sh.mono, h.dt.mono, h.dj⟩
/-- An array that grows in a box, while there are draws. -/
structure GroF (cb : Nat) (H0 : AH) (bx : List (Nat × Blk)) (o : Nat) (sh : Value) (ss : List Int) (a' : Option Addr) (c' : Nat) (l : List Int) (H : AH) : Prop where
  bs : ∀ x ∈ bx, H[x.1]? = some x.2 ∧ x.1 < o ∧ x.1 ≠ cb
  out : H[o]? = some ⟨[sh, .slice a' l.length c'], .own⟩
  osh : DR H0 H sh ss
  od : DR H0 H (.slice a' l.length c') l
  nd : ∀ b, blkOf (.slice a' l.length c') = some b → o < b
  ns : ∀ b, blkOf sh = some b → b < o ∧ ∀ x ∈ bx, x.1 ≠ b
  n0 : H0.length ≤ o
  nc : cb < H0.length
  ext : Frm cb H0 H
theorem GroF.mono {cb : Nat} {H0 H L : AH} {bx : List (Nat × Blk)} {o : Nat} {sh : Value} {ss : List Int} {a' : Option Addr} {c' : Nat} {l : List Int} (h : GroF cb H0 bx o sh ss a' c' l H) : GroF cb H0 bx o sh ss a' c' l (H ++ L) :=
  ⟨fun x hx => ⟨gtl (h.bs x hx).1, (h.bs x hx).2⟩, gtl h.out, h.osh.mono, h.od.mono, h.nd, h.ns, h.n0, h.nc, h.ext.app⟩
theorem DR.set {H0 H : AH} {v : Value} {l : List Int} {b : Nat} {k : Blk} (h : DR H0 H v l) (hb : blkOf v ≠ some b) : DR H0 (H.set b k) v l := ⟨h.own.set hb, h.fr⟩
theorem DA.set {H0 H : AH} {p q : Value} {sh dt : List Int} {b : Nat} {k : Blk} (h : DA H0 H p q sh dt) (h1 : blkOf p ≠ some b) (h2 : blkOf q ≠ some b) : DA H0 (H.set b k) p q sh dt := ⟨h.sh.set h1, h.dt.set h2, h.dj⟩
theorem DR.lt {H0 H : AH} {v : Value} {l : List Int} (h : DR H0 H v l) : ∀ b, blkOf v = some b → b < H.length := h.own.lt
inductive It where
  | box (o : Nat) (cs : List Value)
  | row (v : Value) (l : List Int)
  | cmp (x : Comp) (V : List CV)
def It.ok (H : AH) : It → Prop
  | .box o cs => H[o]? = some ⟨cs, .own⟩
  | .row v l => OwnRow H v l
  | .cmp x V => x.own H ∧ cvs H x.xs = V
def It.bs : It → Nat → Prop
  | .box o _, b => b = o
  | .row v _, b => blkOf v = some b
  | .cmp x _, b => x.bs b
theorem It.ok.same {H H' : AH} {x : It} (h : x.ok H) (hs : ∀ b, x.bs b → H'[b]? = H[b]?) : x.ok H' := by
  cases x with
  | box o cs => show H'[o]? = _; rw [hs o rfl]; exact h
  | row v l => exact OwnRow.same h hs
  | cmp x V => exact ⟨h.1.same hs, by rw [(Comp.rd.same h.1.rd hs).2]; exact h.2⟩
theorem OwnC.ownb {H : AH} {y : Value} (h : OwnC H y) : ∀ b, blkOf y = some b → ∃ cs, H[b]? = some (⟨cs, .own⟩ : Blk) := by
  intro b hb
  rcases h with ⟨n, rfl⟩ | ⟨n, rfl⟩ | ⟨e, _⟩ | ⟨b', o, cs, e, h2, _⟩
  · simp [blkOf] at hb
  · simp [blkOf] at hb
  · rw [e] at hb; simp [blkOf] at hb
  · rw [e] at hb; simp [blkOf] at hb; subst hb; exact ⟨cs, h2⟩
theorem It.ok.ownb {H : AH} {x : It} (h : x.ok H) : ∀ b, x.bs b → ∃ cs, H[b]? = some (⟨cs, .own⟩ : Blk) := by
  intro b hb
  cases x with
  | box o cs => cases hb; exact ⟨cs, h⟩
  | row v l =>
    rcases h with ⟨e, _⟩ | ⟨b', o, cs, e, h2, _⟩
    · rw [e] at hb; simp [It.bs, blkOf] at hb
    · rw [e] at hb; simp [It.bs, blkOf] at hb; subst hb; exact ⟨cs, h2⟩
  | cmp x V =>
    obtain ⟨h, _⟩ := h
    cases x with
    | cells ks xs =>
      obtain ⟨y, hy, e⟩ := hb
      exact (h.2.1 y hy).ownb b e
    | row v ks n xs =>
      rcases hb with hb | ⟨y, hy, e⟩
      · rcases (show OT H v ks n xs from h).row with ⟨h1, _⟩ | ⟨b', o, cs, h1, h2, h3⟩
        · rw [h1] at hb; simp [blkOf] at hb
        · rw [h1] at hb; simp [blkOf] at hb; subst hb; exact ⟨cs, h2⟩
      · obtain ⟨j, hj⟩ := List.mem_iff_getElem?.1 hy
        exact ((show OT H v ks n xs from h).own j y hj).ownb b e
theorem It.ok.lt {H : AH} {x : It} (h : x.ok H) : ∀ b, x.bs b → b < H.length := fun b hb => by
  obtain ⟨cs, h⟩ := h.ownb b hb
  exact (List.getElem?_eq_some_iff.1 h).1
/-- What a function holds: each by itself, none older than the call; a cursor may be there too. -/
structure LD (c : Option Nat) (H0 H : AH) (L : List It) : Prop where
  ok : ∀ (i : Nat) x, L[i]? = some x → x.ok H
  fr : ∀ (i : Nat) x, L[i]? = some x → ∀ b, x.bs b → H0.length ≤ b
  dj : ∀ (i j : Nat) x y, i ≠ j → L[i]? = some x → L[j]? = some y → ∀ b, x.bs b → ¬ y.bs b
  len : H0.length ≤ H.length
  keep : ∀ b, b < H0.length → c ≠ some b → H[b]? = H0[b]?
  cur : ∀ cb, c = some cb → Cur H cb
  nc : ∀ cb, c = some cb → ∀ (i : Nat) x, L[i]? = some x → ¬ x.bs cb
theorem LD.ext {H0 H : AH} {L : List It} (h : LD none H0 H L) : ∃ K, H = H0 ++ K := ext_of h.len fun b hb => h.keep b hb (by simp)
theorem LD.nil {H : AH} : LD none H H [] := ⟨fun i x h => by simp at h, fun i x h => by simp at h, fun i j x y _ h => by simp at h, Nat.le_refl _, fun _ _ _ => rfl, fun _ h => by simp at h, fun _ h => by simp at h⟩
/-- Something new comes. -/
theorem LD.add {c : Option Nat} {H0 H H' : AH} {L : List It} {x : It} (h : LD c H0 H L) (hl : H.length ≤ H'.length) (hk : ∀ b, b < H.length → c ≠ some b → H'[b]? = H[b]?) (hc : ∀ cb, c = some cb → Cur H' cb) (hx : x.ok H') (hb : ∀ b, x.bs b → H.length ≤ b) : LD c H0 H' (x :: L) := by
  have same : ∀ (i : Nat) y, L[i]? = some y → y.ok H' := fun i y hy => (h.ok i y hy).same fun b hb => hk b ((h.ok i y hy).lt b hb) fun e => h.nc b e i y hy hb
  refine ⟨?_, ?_, ?_, Nat.le_trans h.len hl, fun b hb hn => ?_, hc, fun cb e => ?_⟩
  · rintro (_ | i) y hy
    · cases hy; exact hx
    · exact same i y hy
  · rintro (_ | i) y hy b hb2
    · cases hy; exact Nat.le_trans h.len (hb b hb2)
    · exact h.fr i y hy b hb2
  · rintro (_ | i) (_ | j) y z hne hy hz b h1 h2
    · exact hne rfl
    · cases hy; have := hb b h1; have := (h.ok j z hz).lt b h2; omega
    · cases hz; have := hb b h2; have := (h.ok i y hy).lt b h1; omega
    · exact h.dj i j y z (by omega) hy hz b h1 h2
  · rw [hk b (Nat.lt_of_lt_of_le hb h.len) hn, h.keep b hb hn]
  · rintro (_ | i) y hy h2
    · cases hy; have := hb cb h2; have := (h.cur cb e).lt; omega
    · exact h.nc cb e i y hy h2
theorem LD.tail {c : Option Nat} {H0 H : AH} {L : List It} {x : It} (h : LD c H0 H (x :: L)) : LD c H0 H L :=
  ⟨fun i y hy => h.ok (i + 1) y hy, fun i y hy => h.fr (i + 1) y hy, fun i j y z hne hy hz => h.dj (i + 1) (j + 1) y z (by omega) hy hz, h.len, h.keep, h.cur, fun cb e i y hy => h.nc cb e (i + 1) y hy⟩
theorem LD.call {cb : Nat} {H0 H H' : AH} {L : List It} (h : LD (some cb) H0 H L) (hf : Frm cb H H') : LD (some cb) H0 H' L :=
  (h.add (x := .row (.slice none 0 0) []) hf.len (fun b hb hn => hf.keep b hb (by simpa using Ne.symm hn)) (fun g e => by cases e; exact hf.cur) OwnRow.nil fun b hb => by simp [It.bs, blkOf] at hb).tail
theorem LD.extd {c : Option Nat} {H0 H H' : AH} {L : List It} (h : LD c H0 H L) (hf : ∃ K, H' = H ++ K) : LD c H0 H' L := by
  obtain ⟨K, rfl⟩ := hf
  exact (h.add (x := .row (.slice none 0 0) []) (by simp) (fun b hb _ => List.getElem?_append_left hb) (fun g e => (h.cur g e).mono) OwnRow.nil fun b hb => by simp [It.bs, blkOf] at hb).tail
theorem LD.box {c : Option Nat} {H0 H : AH} {L : List It} (h : LD c H0 H L) (cs : List Value) : LD c H0 (H ++ [⟨cs, .own⟩]) (.box H.length cs :: L) :=
  h.add (by simp) (fun b hb _ => List.getElem?_append_left hb) (fun g e => (h.cur g e).mono) (by show (H ++ [⟨cs, .own⟩])[H.length]? = _; rw [gt0]; rfl) fun b hb => by cases hb; exact Nat.le_refl _
theorem LD.nrow {c : Option Nat} {H0 H H' : AH} {L : List It} {v : Value} {l : List Int} (h : LD c H0 H L) (hv : DR H H' v l) (hf : ∃ K, H' = H ++ K) : LD c H0 H' (.row v l :: L) := by
  obtain ⟨K, rfl⟩ := hf
  exact h.add (by simp) (fun b hb _ => List.getElem?_append_left hb) (fun g e => (h.cur g e).mono) hv.own hv.fr
theorem LD.nrow2 {c : Option Nat} {H0 H H' : AH} {L : List It} {v w : Value} {l m : List Int} (h : LD c H0 H L) (hv : DR H H' v l) (hw : DR H H' w m) (hd : Dj v w) (hf : ∃ K, H' = H ++ K) : LD c H0 H' (.row v l :: .row w m :: L) := by
  have h1 := h.nrow hv hf
  have h2 := h.nrow hw hf
  refine ⟨?_, ?_, ?_, h1.len, h1.keep, h1.cur, fun cb e => ?_⟩
  · rintro (_ | i) y hy
    · cases hy; exact hv.own
    · exact h2.ok i y hy
  · rintro (_ | i) y hy b hb
    · cases hy; exact h1.fr 0 _ rfl b hb
    · exact h2.fr i y hy b hb
  · rintro (_ | _ | i) (_ | _ | j) y z hne hy hz b e1 e2
    · exact hne rfl
    · cases hy; cases hz; exact hd b e1 e2
    · exact h1.dj 0 (j + 1) y z (by omega) hy hz b e1 e2
    · cases hy; cases hz; exact hd b e2 e1
    · exact hne rfl
    · exact h2.dj 0 (j + 1) y z (by omega) hy hz b e1 e2
    · exact h1.dj (i + 1) 0 y z (by omega) hy hz b e1 e2
    · exact h2.dj (i + 1) 0 y z (by omega) hy hz b e1 e2
    · exact h1.dj (i + 1) (j + 1) y z (by omega) hy hz b e1 e2
  · rintro (_ | i) y hy
    · cases hy; exact h1.nc cb e 0 _ rfl
    · exact h2.nc cb e i y hy
theorem LD.aown {c : Option Nat} {H0 H H' : AH} {L : List It} {p q v : Value} {sh dt : List Int} (h : LD c H0 H L) (ha : AOwn H H' v sh dt p q) (hf : ∃ K, H' = H ++ K) : LD c H0 H' (.row p sh :: .row q dt :: L) :=
  h.nrow2 ⟨ha.sh, ha.n1⟩ ⟨ha.dt, ha.n2⟩ ha.dj hf
theorem LD.rd {c : Option Nat} {H0 H : AH} {L : List It} {o : Nat} {cs : List Value} (h : LD c H0 H L) (i : Nat) (hi : L[i]? = some (.box o cs)) : rd H o = some cs ∧ wrt H o = some cs :=
  ⟨rd_own (h.ok i _ hi), wrt_own (h.ok i _ hi)⟩
theorem LD.own {c : Option Nat} {H0 H : AH} {L : List It} {v : Value} {l : List Int} (h : LD c H0 H L) (i : Nat) (hi : L[i]? = some (.row v l)) : OwnRow H v l := h.ok i _ hi
/-- One thing is turned. -/
theorem LD.upd {c : Option Nat} {H0 H H' : AH} {L : List It} {x x' : It} (h : LD c H0 H L) (i : Nat) (hi : L[i]? = some x) (hl : H.length ≤ H'.length) (hk : ∀ b, b < H.length → ¬ x.bs b → H'[b]? = H[b]?) (hx : x'.ok H') (hb : ∀ b, x'.bs b → x.bs b ∨ H.length ≤ b) : LD c H0 H' (L.set i x') := by
  have hil := (List.getElem?_eq_some_iff.1 hi).1
  have get : ∀ (j : Nat) y, (L.set i x')[j]? = some y → (j = i ∧ y = x') ∨ (j ≠ i ∧ L[j]? = some y) := fun j y hy => by
    rcases Nat.decEq i j with e | e
    · rw [List.getElem?_set_ne e] at hy; exact .inr ⟨Ne.symm e, hy⟩
    · subst e; rw [List.getElem?_set_self hil] at hy; cases hy; exact .inl ⟨rfl, rfl⟩
  refine ⟨fun j y hy => ?_, fun j y hy b hb2 => ?_, fun j k y z hne hy hz b e1 e2 => ?_, Nat.le_trans h.len hl, fun b hb2 hn => ?_, fun cb e => ?_, fun cb e j y hy h2 => ?_⟩
  · rcases get j y hy with ⟨rfl, rfl⟩ | ⟨hne, hy⟩
    · exact hx
    · exact (h.ok j y hy).same fun b hb2 => hk b ((h.ok j y hy).lt b hb2) (h.dj j i y x hne hy hi b hb2)
  · rcases get j y hy with ⟨rfl, rfl⟩ | ⟨hne, hy⟩
    · exact (hb b hb2).elim (h.fr j x hi b) fun h2 => Nat.le_trans h.len h2
    · exact h.fr j y hy b hb2
  · rcases get j y hy with ⟨rfl, rfl⟩ | ⟨hne1, hy'⟩
    · rcases get k z hz with ⟨rfl, rfl⟩ | ⟨hne2, hz⟩
      · exact hne rfl
      · exact (hb b e1).elim (fun e1 => h.dj j k x z hne hi hz b e1 e2) fun e1 => by have := (h.ok k z hz).lt b e2; omega
    · rcases get k z hz with ⟨rfl, rfl⟩ | ⟨hne2, hz⟩
      · exact (hb b e2).elim (fun e2 => h.dj j k y x hne hy' hi b e1 e2) fun e2 => by have := (h.ok j y hy').lt b e1; omega
      · exact h.dj j k y z hne hy' hz b e1 e2
  · rw [hk b (Nat.lt_of_lt_of_le hb2 h.len) fun e => by have := h.fr i x hi b e; omega, h.keep b hb2 hn]
  · have h2 := h.cur cb e
    refine h2.same (hk cb h2.lt (h.nc cb e i x hi)) fun b cs hb2 => ?_
    rw [hk b (List.getElem?_eq_some_iff.1 hb2).1 fun e => ?_]
    · exact hb2
    · obtain ⟨cs', h3⟩ := (h.ok i x hi).ownb b e
      rw [hb2] at h3; cases h3
  · rcases get j y hy with ⟨rfl, rfl⟩ | ⟨hne1, hy'⟩
    · exact (hb cb h2).elim (h.nc cb e j x hi) fun h3 => by have := (h.cur cb e).lt; omega
    · exact h.nc cb e j y hy' h2
theorem LD.cursor {H0 H H' : AH} {L : List It} {cb : Nat} (h : LD none H0 H L) (hf : ∃ K, H' = H ++ K) (hc : Cur H' cb) (hb : H.length ≤ cb) : LD (some cb) H0 H' L := by
  have h1 := h.extd hf
  exact ⟨h1.ok, h1.fr, h1.dj, h1.len, fun b hb _ => h1.keep b hb (by simp), fun g e => by cases e; exact hc, fun g e i x hx h2 => by cases e; have := (h.ok i x hx).lt _ h2; omega⟩
theorem LD.out {H0 H : AH} {L : List It} {cb : Nat} (h : LD (some cb) H0 H L) (hb : H0.length ≤ cb) : LD none H0 H L :=
  ⟨h.ok, h.fr, h.dj, h.len, fun b hb2 _ => h.keep b hb2 (by simp; omega), fun _ e => by simp at e, fun _ e => by simp at e⟩
theorem LD.set {c : Option Nat} {H0 H : AH} {L : List It} {o : Nat} {cs : List Value} (h : LD c H0 H L) (i : Nat) (hi : L[i]? = some (.box o cs)) (cs' : List Value) : LD c H0 (H.set o ⟨cs', .own⟩) (L.set i (.box o cs')) :=
  h.upd i hi (by simp) (fun b hb hn => List.getElem?_set_ne (fun e => hn e.symm)) (set_at (h.ok i _ hi)) fun b hb => .inl hb
theorem LD.cells {c : Option Nat} {H0 H : AH} {L : List It} {v : Value} {l : List Int} (h : LD c H0 H L) (i : Nat) (hi : L[i]? = some (.row v l)) (hk : 0 < l.length) :
    ∃ b o cs, v = .slice (some ⟨b, o, none⟩) l.length 1 ∧ Go.Proofs.Ytamlfhngenndfaa.AM.rd H b = some cs ∧ ∀ (i : Nat) x, l[i]? = some x → cs[o + i]? = some (.int .i64 x) := by
  obtain ⟨b, o, cs, rfl, h1, h2, h3⟩ := (h.own i hi).blk hk
  exact ⟨b, o, cs, rfl, rd_own h1, h3⟩

/-- The bytes of a draw. -/
def BRv (H : AH) (v : Value) : Prop := ∃ a n c, v = .slice a n c ∧ n ≤ 1048576 ∧ BRow H a n c
theorem BRow.mono {H L : AH} {a : Option Addr} {n c : Nat} (h : BRow H a n c) : BRow (H ++ L) a n c := fun hn => by
  obtain ⟨b, o, cs, h1, h2, h3, h4⟩ := h hn
  exact ⟨b, o, cs, h1, h2, gtl h3, h4⟩
theorem BRv.ext {H H' : AH} {v : Value} (h : BRv H v) (he : ∃ K, H' = H ++ K) : BRv H' v := by
  obtain ⟨K, rfl⟩ := he
  obtain ⟨a, n, c, h1, h2, h3⟩ := h
  exact ⟨a, n, c, h1, h2, h3.mono⟩
/-- An array that may be read. -/
structure AR (H : AH) (p q : Value) (sh dt : List Int) : Prop where
  os : IntRow H p sh
  od : IntRow H q dt
  l1 : sh.length ≤ 1048576
  l2 : dt.length ≤ 1048576
theorem AR.ext {H H' : AH} {p q : Value} {sh dt : List Int} (h : AR H p q sh dt) (he : ∃ K, H' = H ++ K) : AR H' p q sh dt := ⟨h.os.ext he, h.od.ext he, h.l1, h.l2⟩
theorem AR.mono {H L : AH} {p q : Value} {sh dt : List Int} (h : AR H p q sh dt) : AR (H ++ L) p q sh dt := h.ext ⟨_, rfl⟩
theorem LD.of {c : Option Nat} {H0 H : AH} {L L' : List It} (h : LD c H0 H L) (e : L = L') : LD c H0 H L' := by rw [← e]; exact h

def Ans1 (H H' : AH) (r : Value) (R : (List Int × List Int) × Int) : Prop := ∃ p q, r = .tuple #[.agg #[p, q], .int .i64 R.2] ∧ LD none H H' [.row p R.1.1, .row q R.1.2]
theorem ARes.ld {H H' : AH} {r : Value} {R : (List Int × List Int) × Int} (h : ARes H H' r R) : Ans1 H H' r R := by
  obtain ⟨⟨a, c, b, d, rfl, h⟩, he⟩ := h
  exact ⟨_, _, rfl, LD.nil.aown h he⟩
/-- The cells of a row that may be read. -/
theorem IntRow.cells {H : AH} {a : Option Addr} {n c : Nat} {l : List Int} (h : IntRow H (.slice a n c) l) {i : Nat} (hi : i < l.length) : n = l.length ∧ ∃ b o cs, a = some ⟨b, o, none⟩ ∧ c = 1 ∧ rd H b = some cs ∧ cs[o + i]? = some (.int .i64 l[i]) := by
  obtain ⟨a', c', e, g⟩ := h.op
  injection e with e1 e2 e3
  subst e1; subst e2; subst e3
  obtain ⟨b, o, cs, g1, g2, g3, g4, g5⟩ := g (by omega)
  exact ⟨rfl, b, o, cs, g1, g2, g3, g5 i hi⟩
theorem AR.lim {H : AH} {p q : Value} {sh dt : List Int} (h : AR H p q sh dt) : sh.length < 4611686018427387904 ∧ dt.length < 4611686018427387904 := by
  have := h.l1; have := h.l2; omega
/-- A table whose cells lie in what is never turned; its own block is the function's. -/
structure TabOk (B : Nat → Prop) (H : AH) (v : Value) (ks : List CK) (n : Nat) (xs : List Value) : Prop where
  len : xs.length = n * ks.length
  row : (v = .slice none 0 0 ∧ n = 0) ∨ ∃ b o cs, v = .slice (some ⟨b, o, none⟩) n ks.length ∧ H[b]? = some ⟨cs, .own⟩ ∧ o + n * ks.length ≤ cs.length ∧ ∀ (j : Nat) y, xs[j]? = some y → cs[o + j]? = some y
  cell : ∀ (i c : Nat) k y, i < n → ks[c]? = some k → xs[i * ks.length + c]? = some y → KOk H k y
  base : ∀ y ∈ xs, ∀ b, blkOf y = some b → B b
theorem TabOk.frow {B : Nat → Prop} {H : AH} {v : Value} {ks : List CK} {n : Nat} {xs : List Value} (h : TabOk B H v ks n xs) : FRow H v ks n xs := by
  refine ⟨h.len, ?_, h.cell⟩
  rcases h.row with h1 | ⟨b, o, cs, h1, h2, h3⟩
  · exact .inl h1
  · exact .inr ⟨b, o, cs, h1, rd_own h2, h3⟩
theorem TabOk.same {B B' : Nat → Prop} {H H' : AH} {v : Value} {ks : List CK} {n : Nat} {xs : List Value} (h : TabOk B H v ks n xs) (hv : ∀ b, blkOf v = some b → H'[b]? = H[b]?) (hB : ∀ b, B b → H'[b]? = H[b]?) (hBB : ∀ b, B b → B' b) : TabOk B' H' v ks n xs := by
  refine ⟨h.len, ?_, fun i c k y hi hk hy => (h.cell i c k y hi hk hy).same fun b hb => get_rd (hB b (h.base y (List.mem_of_getElem? hy) b hb)), fun y hy b hb => hBB b (h.base y hy b hb)⟩
  rcases h.row with h1 | ⟨b, o, cs, h1, h2, h3⟩
  · exact .inl h1
  · exact .inr ⟨b, o, cs, h1, by rw [hv b (by rw [h1]; rfl)]; exact h2, h3⟩
theorem TabOk.vals {B : Nat → Prop} {H H' : AH} {v : Value} {ks : List CK} {n : Nat} {xs : List Value} (h : TabOk B H v ks n xs) (hB : ∀ b, B b → H'[b]? = H[b]?) : cvs H' xs = cvs H xs :=
  FRow.cvs_same fun b ⟨y, hy, hb⟩ => get_rd (hB b (h.base y hy b hb))
/-- A table that is only read. -/
structure FTab (B : Nat → Prop) (H : AH) (v : Value) (ks : List CK) (n : Nat) (xs : List Value) : Prop where
  fr : FRow H v ks n xs
  base : ∀ b, (blkOf v = some b ∨ ∃ y ∈ xs, blkOf y = some b) → B b
inductive Ix where
  | own (x : It)
  | tab (v : Value) (ks : List CK) (n : Nat) (xs : List Value) (V : List CV)
  | fro (v : Value) (l : List Int)
  | ftab (v : Value) (ks : List CK) (n : Nat) (xs : List Value) (V : List CV)
def Ix.ok (B : Nat → Prop) (H : AH) : Ix → Prop
  | .own x => x.ok H
  | .tab v ks n xs V => TabOk B H v ks n xs ∧ cvs H xs = V
  | .fro v l => IntRow H v l ∧ ∀ b, blkOf v = some b → B b
  | .ftab v ks n xs V => FTab B H v ks n xs ∧ cvs H xs = V
def Ix.bs : Ix → Nat → Prop
  | .own x, b => x.bs b
  | .tab v _ _ _ _, b => blkOf v = some b
  | .fro _ _, _ => False
  | .ftab _ _ _ _ _, _ => False
theorem Ix.ok.same {B B' : Nat → Prop} {H H' : AH} {x : Ix} (h : x.ok B H) (hs : ∀ b, x.bs b → H'[b]? = H[b]?) (hB : ∀ b, B b → H'[b]? = H[b]?) (hBB : ∀ b, B b → B' b) : x.ok B' H' := by
  cases x with
  | own x => exact It.ok.same h hs
  | tab v ks n xs V => exact ⟨h.1.same hs hB hBB, (h.1.vals hB).trans h.2⟩
  | fro v l => exact ⟨h.1.same fun b o n c e => get_rd (hB b (h.2 b (by rw [e]; rfl))), fun b hb => hBB b (h.2 b hb)⟩
  | ftab v ks n xs V => exact ⟨⟨h.1.fr.same fun b hb => get_rd (hB b (h.1.base b hb)), fun b hb => hBB b (h.1.base b hb)⟩, (FRow.cvs_same fun b hb => get_rd (hB b (h.1.base b (.inr hb)))).trans h.2⟩
theorem Ix.ok.ownb {B : Nat → Prop} {H : AH} {x : Ix} (h : x.ok B H) : ∀ b, x.bs b → ∃ cs, H[b]? = some (⟨cs, .own⟩ : Blk) := by
  intro b hb
  cases x with
  | own x => exact It.ok.ownb h b hb
  | tab v ks n xs V =>
    rcases h.1.row with ⟨e, _⟩ | ⟨b', o, cs, e, h2, _⟩
    · rw [e] at hb; simp [Ix.bs, blkOf] at hb
    · rw [e] at hb; simp [Ix.bs, blkOf] at hb; subst hb; exact ⟨cs, h2⟩
  | fro v l => exact hb.elim
  | ftab v ks n xs V => exact hb.elim
theorem Ix.ok.lt {B : Nat → Prop} {H : AH} {x : Ix} (h : x.ok B H) : ∀ b, x.bs b → b < H.length := fun b hb => by
  obtain ⟨cs, h⟩ := h.ownb b hb
  exact (List.getElem?_eq_some_iff.1 h).1
structure LB (B : Nat → Prop) (c : Option Nat) (H0 H : AH) (L : List Ix) : Prop where
  ok : ∀ (i : Nat) x, L[i]? = some x → x.ok B H
  fr : ∀ (i : Nat) x, L[i]? = some x → ∀ b, x.bs b → ¬ B b ∧ H0.length ≤ b
  dj : ∀ (i j : Nat) x y, i ≠ j → L[i]? = some x → L[j]? = some y → ∀ b, x.bs b → ¬ y.bs b
  len : H0.length ≤ H.length
  keep : ∀ b, b < H0.length → c ≠ some b → H[b]? = H0[b]?
  b0 : ∀ b, b < H0.length → c ≠ some b → B b
  bl : ∀ b, B b → b < H.length ∧ c ≠ some b
  cur : ∀ cb, c = some cb → Cur H cb
  nc : ∀ cb, c = some cb → ∀ (i : Nat) x, L[i]? = some x → ¬ x.bs cb
/-- What a function holds: each by itself, none older than the call; and what it only reads. -/
def LX (c : Option Nat) (H0 H : AH) (L : List Ix) : Prop := ∃ B, LB B c H0 H L
theorem LX.ext {H0 H : AH} {L : List Ix} (h : LX none H0 H L) : ∃ K, H = H0 ++ K := by
  obtain ⟨B, h⟩ := h
  exact ext_of h.len fun b hb => h.keep b hb (by simp)
theorem LX.len {c : Option Nat} {H0 H : AH} {L : List Ix} (h : LX c H0 H L) : H0.length ≤ H.length := by
  obtain ⟨B, h⟩ := h; exact h.len
theorem LX.nil {H : AH} : LX none H H [] :=
  ⟨fun b => b < H.length, fun i x h => by simp at h, fun i x h => by simp at h, fun i j x y _ h => by simp at h, Nat.le_refl _, fun _ _ _ => rfl, fun b hb _ => hb, fun b hb => ⟨hb, by simp⟩, fun _ h => by simp at h, fun _ h => by simp at h⟩
/-- The heap turns, but for what is held or only read. -/
theorem LB.add {B : Nat → Prop} {c : Option Nat} {H0 H H' : AH} {L : List Ix} {x : Ix} (h : LB B c H0 H L) (hl : H.length ≤ H'.length) (hk : ∀ b, b < H.length → c ≠ some b → H'[b]? = H[b]?) (hc : ∀ cb, c = some cb → Cur H' cb) (hx : x.ok B H') (hb : ∀ b, x.bs b → H.length ≤ b) : LB B c H0 H' (x :: L) := by
  have same : ∀ (i : Nat) y, L[i]? = some y → y.ok B H' := fun i y hy => (h.ok i y hy).same (fun b hb => hk b ((h.ok i y hy).lt b hb) fun e => h.nc b e i y hy hb) (fun b hb => hk b (h.bl b hb).1 (h.bl b hb).2) fun b hb => hb
  refine ⟨?_, ?_, ?_, Nat.le_trans h.len hl, fun b hb hn => ?_, h.b0, fun b hb => ⟨Nat.lt_of_lt_of_le (h.bl b hb).1 hl, (h.bl b hb).2⟩, hc, fun cb e => ?_⟩
  · rintro (_ | i) y hy
    · cases hy; exact hx
    · exact same i y hy
  · rintro (_ | i) y hy b hb2
    · cases hy
      exact ⟨fun hB => by have := (h.bl b hB).1; have := hb b hb2; omega, Nat.le_trans h.len (hb b hb2)⟩
    · exact h.fr i y hy b hb2
  · rintro (_ | i) (_ | j) y z hne hy hz b h1 h2
    · exact hne rfl
    · cases hy; have := hb b h1; have := (h.ok j z hz).lt b h2; omega
    · cases hz; have := hb b h2; have := (h.ok i y hy).lt b h1; omega
    · exact h.dj i j y z (by omega) hy hz b h1 h2
  · rw [hk b (Nat.lt_of_lt_of_le hb h.len) hn, h.keep b hb hn]
  · rintro (_ | i) y hy h2
    · cases hy; have := hb cb h2; have := (h.cur cb e).lt; omega
    · exact h.nc cb e i y hy h2
theorem LB.tail {B : Nat → Prop} {c : Option Nat} {H0 H : AH} {L : List Ix} {x : Ix} (h : LB B c H0 H (x :: L)) : LB B c H0 H L :=
  ⟨fun i y hy => h.ok (i + 1) y hy, fun i y hy => h.fr (i + 1) y hy, fun i j y z hne hy hz => h.dj (i + 1) (j + 1) y z (by omega) hy hz, h.len, h.keep, h.b0, h.bl, h.cur, fun cb e i y hy => h.nc cb e (i + 1) y hy⟩
theorem LX.tail {c : Option Nat} {H0 H : AH} {L : List Ix} {x : Ix} (h : LX c H0 H (x :: L)) : LX c H0 H L := by
  obtain ⟨B, h⟩ := h; exact ⟨B, h.tail⟩
theorem LB.grow {B : Nat → Prop} {c : Option Nat} {H0 H H' : AH} {L : List Ix} (h : LB B c H0 H L) (hl : H.length ≤ H'.length) (hk : ∀ b, b < H.length → c ≠ some b → H'[b]? = H[b]?) (hc : ∀ cb, c = some cb → Cur H' cb) : LB B c H0 H' L :=
  (h.add (x := .own (.row (.slice none 0 0) [])) hl hk hc OwnRow.nil fun b hb => by simp [Ix.bs, It.bs, blkOf] at hb).tail
theorem LX.call {cb : Nat} {H0 H H' : AH} {L : List Ix} (h : LX (some cb) H0 H L) (hf : Frm cb H H') : LX (some cb) H0 H' L := by
  obtain ⟨B, h⟩ := h
  exact ⟨B, h.grow hf.len (fun b hb hn => hf.keep b hb (by simpa using Ne.symm hn)) (fun g e => by cases e; exact hf.cur)⟩
theorem LX.extd {c : Option Nat} {H0 H H' : AH} {L : List Ix} (h : LX c H0 H L) (hf : ∃ K, H' = H ++ K) : LX c H0 H' L := by
  obtain ⟨B, h⟩ := h
  obtain ⟨K, rfl⟩ := hf
  exact ⟨B, h.grow (by simp) (fun b hb _ => List.getElem?_append_left hb) (fun g e => (h.cur g e).mono)⟩
/-- One thing is turned. -/
theorem LB.upd {B : Nat → Prop} {c : Option Nat} {H0 H H' : AH} {L : List Ix} {x x' : Ix} (h : LB B c H0 H L) (i : Nat) (hi : L[i]? = some x) (hl : H.length ≤ H'.length) (hk : ∀ b, b < H.length → ¬ x.bs b → H'[b]? = H[b]?) (hx : x'.ok B H') (hb : ∀ b, x'.bs b → x.bs b ∨ H.length ≤ b) : LB B c H0 H' (L.set i x') := by
  have hil := (List.getElem?_eq_some_iff.1 hi).1
  have get : ∀ (j : Nat) y, (L.set i x')[j]? = some y → (j = i ∧ y = x') ∨ (j ≠ i ∧ L[j]? = some y) := fun j y hy => by
    rcases Nat.decEq i j with e | e
    · rw [List.getElem?_set_ne e] at hy; exact .inr ⟨Ne.symm e, hy⟩
    · subst e; rw [List.getElem?_set_self hil] at hy; cases hy; exact .inl ⟨rfl, rfl⟩
  have hB : ∀ b, B b → H'[b]? = H[b]? := fun b hb => hk b (h.bl b hb).1 fun e => (h.fr i x hi b e).1 hb
  refine ⟨fun j y hy => ?_, fun j y hy b hb2 => ?_, fun j k y z hne hy hz b e1 e2 => ?_, Nat.le_trans h.len hl, fun b hb2 hn => ?_, h.b0, fun b hb => ⟨Nat.lt_of_lt_of_le (h.bl b hb).1 hl, (h.bl b hb).2⟩, fun cb e => ?_, fun cb e j y hy h2 => ?_⟩
  · rcases get j y hy with ⟨rfl, rfl⟩ | ⟨hne, hy⟩
    · exact hx
    · exact (h.ok j y hy).same (fun b hb2 => hk b ((h.ok j y hy).lt b hb2) (h.dj j i y x hne hy hi b hb2)) hB fun b hb => hb
  · rcases get j y hy with ⟨rfl, rfl⟩ | ⟨hne, hy⟩
    · exact (hb b hb2).elim (h.fr j x hi b) fun h2 => ⟨fun hB2 => by have := (h.bl b hB2).1; omega, Nat.le_trans h.len h2⟩
    · exact h.fr j y hy b hb2
  · rcases get j y hy with ⟨rfl, rfl⟩ | ⟨hne1, hy'⟩
    · rcases get k z hz with ⟨rfl, rfl⟩ | ⟨hne2, hz⟩
      · exact hne rfl
      · exact (hb b e1).elim (fun e1 => h.dj j k x z hne hi hz b e1 e2) fun e1 => by have := (h.ok k z hz).lt b e2; omega
    · rcases get k z hz with ⟨rfl, rfl⟩ | ⟨hne2, hz⟩
      · exact (hb b e2).elim (fun e2 => h.dj j k y x hne hy' hi b e1 e2) fun e2 => by have := (h.ok j y hy').lt b e1; omega
      · exact h.dj j k y z hne hy' hz b e1 e2
  · rw [hk b (Nat.lt_of_lt_of_le hb2 h.len) fun e => by have := (h.fr i x hi b e).2; omega, h.keep b hb2 hn]
  · have h2 := h.cur cb e
    refine h2.same (hk cb h2.lt (h.nc cb e i x hi)) fun b cs hb2 => ?_
    rw [hk b (List.getElem?_eq_some_iff.1 hb2).1 fun e => ?_]
    · exact hb2
    · obtain ⟨cs', h3⟩ := (h.ok i x hi).ownb b e
      rw [hb2] at h3; cases h3
  · rcases get j y hy with ⟨rfl, rfl⟩ | ⟨hne1, hy'⟩
    · exact (hb cb h2).elim (h.nc cb e j x hi) fun h3 => by have := (h.cur cb e).lt; omega
    · exact h.nc cb e j y hy' h2
theorem LX.rd {c : Option Nat} {H0 H : AH} {L : List Ix} {o : Nat} {cs : List Value} (h : LX c H0 H L) (i : Nat) (hi : L[i]? = some (.own (.box o cs))) : rd H o = some cs ∧ wrt H o = some cs := by
  obtain ⟨B, h⟩ := h
  exact ⟨rd_own (h.ok i _ hi), wrt_own (h.ok i _ hi)⟩
theorem LX.own {c : Option Nat} {H0 H : AH} {L : List Ix} {v : Value} {l : List Int} (h : LX c H0 H L) (i : Nat) (hi : L[i]? = some (.own (.row v l))) : OwnRow H v l := by
  obtain ⟨B, h⟩ := h; exact h.ok i _ hi
theorem LX.int {c : Option Nat} {H0 H : AH} {L : List Ix} {v : Value} {l : List Int} (h : LX c H0 H L) (i : Nat) (hi : L[i]? = some (.own (.row v l))) : IntRow H v l := (h.own i hi).int
theorem LX.cur {H0 H : AH} {L : List Ix} {cb : Nat} (h : LX (some cb) H0 H L) : Cur H cb := by
  obtain ⟨B, h⟩ := h; exact h.cur cb rfl
theorem LX.nc {H0 H : AH} {L : List Ix} {cb : Nat} {v : Value} {l : List Int} (h : LX (some cb) H0 H L) (i : Nat) (hi : L[i]? = some (.own (.row v l))) : blkOf v ≠ some cb := by
  obtain ⟨B, h⟩ := h
  exact h.nc cb rfl i _ hi
theorem LX.box {c : Option Nat} {H0 H : AH} {L : List Ix} (h : LX c H0 H L) (cs : List Value) : LX c H0 (H ++ [⟨cs, .own⟩]) (.own (.box H.length cs) :: L) := by
  obtain ⟨B, h⟩ := h
  exact ⟨B, h.add (by simp) (fun b hb _ => List.getElem?_append_left hb) (fun g e => (h.cur g e).mono) (by show (H ++ [⟨cs, .own⟩])[H.length]? = _; rw [gt0]; rfl) fun b hb => by cases hb; exact Nat.le_refl _⟩
theorem LX.nrow {c : Option Nat} {H0 H H' : AH} {L : List Ix} {v : Value} {l : List Int} (h : LX c H0 H L) (hv : DR H H' v l) (hf : ∃ K, H' = H ++ K) : LX c H0 H' (.own (.row v l) :: L) := by
  obtain ⟨B, h⟩ := h
  obtain ⟨K, rfl⟩ := hf
  exact ⟨B, h.add (by simp) (fun b hb _ => List.getElem?_append_left hb) (fun g e => (h.cur g e).mono) hv.own hv.fr⟩
theorem LX.set {c : Option Nat} {H0 H : AH} {L : List Ix} {o : Nat} {cs : List Value} (h : LX c H0 H L) (i : Nat) (hi : L[i]? = some (.own (.box o cs))) (cs' : List Value) : LX c H0 (H.set o ⟨cs', .own⟩) (L.set i (.own (.box o cs'))) := by
  obtain ⟨B, h⟩ := h
  exact ⟨B, h.upd i hi (by simp) (fun b hb hn => List.getElem?_set_ne (fun e => hn e.symm)) (set_at (h.ok i _ hi)) fun b hb => .inl hb⟩
theorem LX.out {H0 H : AH} {L : List Ix} {cb : Nat} (h : LX (some cb) H0 H L) (hb : H0.length ≤ cb) : LX none H0 H L := by
  obtain ⟨B, h⟩ := h
  exact ⟨B, h.ok, h.fr, h.dj, h.len, fun b hb2 _ => h.keep b hb2 (by simp; omega), fun b hb2 _ => h.b0 b hb2 (by simp; omega), fun b hb => ⟨(h.bl b hb).1, by simp⟩, fun _ e => by simp at e, fun _ e => by simp at e⟩
theorem LX.cursor {H0 H H' : AH} {L : List Ix} {cb : Nat} (h : LX none H0 H L) (hf : ∃ K, H' = H ++ K) (hc : Cur H' cb) (hb : H.length ≤ cb) : LX (some cb) H0 H' L := by
  obtain ⟨B, h1⟩ := h.extd hf
  obtain ⟨B2, h⟩ := h
  have hlen := ext_len hf
  obtain ⟨K, rfl⟩ := hf
  have h3 : LB B2 none H0 (H ++ K) L := h.grow (by simp) (fun b hb _ => List.getElem?_append_left hb) (fun g e => (h.cur g e).mono)
  refine ⟨B2, h3.ok, h3.fr, h3.dj, h3.len, fun b hb _ => h3.keep b hb (by simp), fun b hb _ => h3.b0 b hb (by simp), fun b hb2 => ⟨(h3.bl b hb2).1, fun e => ?_⟩, fun g e => by cases e; exact hc, fun g e i x hx h2 => ?_⟩
  · cases e
    have := (h.bl _ hb2).1; omega
  · cases e
    have := (h.ok i x hx).lt _ h2; omega
def rowsV (rs : List (List Int × List Int)) : List CV := rs.flatMap fun r => [.r r.1, .r r.2]
theorem rowsV_len {rs : List (List Int × List Int)} : (rowsV rs).length = rs.length * 2 := by
  induction rs with
  | nil => rfl
  | cons r rs ih => simp only [rowsV, List.flatMap_cons, List.length_append, List.length_cons, List.length_nil] at ih ⊢; omega
theorem rowsV_get : ∀ {rs : List (List Int × List Int)} {i : Nat} (h : i < rs.length), (rowsV rs)[i * 2]? = some (.r rs[i].1) ∧ (rowsV rs)[i * 2 + 1]? = some (.r rs[i].2)
  | r :: rs, 0, _ => by simp [rowsV]
  | r :: rs, i + 1, h => by
    have h' : i < rs.length := by simpa using h
    obtain ⟨h1, h2⟩ := rowsV_get h'
    have e : rowsV (r :: rs) = .r r.1 :: .r r.2 :: rowsV rs := rfl
    refine ⟨?_, ?_⟩
    · rw [e, show (i + 1) * 2 = i * 2 + 1 + 1 by omega, List.getElem?_cons_succ, List.getElem?_cons_succ, h1]; rfl
    · rw [e, show (i + 1) * 2 + 1 = i * 2 + 1 + 1 + 1 by omega, List.getElem?_cons_succ, List.getElem?_cons_succ, h2]; rfl
/-- A row of arrays that may be read. -/
def RowsA (H : AH) (v : Value) (rs : List (List Int × List Int)) : Prop :=
  ∃ a c, v = .slice a rs.length c ∧ (0 < rs.length → ∃ b o cs, a = some ⟨b, o, none⟩ ∧ c = 2 ∧ rd H b = some cs ∧
    ∀ i (hi : i < rs.length), ∃ p q, cs[o + i * 2]? = some p ∧ cs[o + i * 2 + 1]? = some q ∧ IntRow H p rs[i].1 ∧ IntRow H q rs[i].2)
theorem RowsA.ext {H H' : AH} {v : Value} {rs : List (List Int × List Int)} (h : RowsA H v rs) (he : ∃ K, H' = H ++ K) : RowsA H' v rs := by
  obtain ⟨a, c, e, g⟩ := h
  refine ⟨a, c, e, fun h0 => ?_⟩
  obtain ⟨b, o, cs, e1, e2, h1, h2⟩ := g h0
  refine ⟨b, o, cs, e1, e2, rd_ext h1 he, fun i hi => ?_⟩
  obtain ⟨p, q, g1, g2, g3, g4⟩ := h2 i hi
  exact ⟨p, q, g1, g2, g3.ext he, g4.ext he⟩
theorem FRow.rows {H : AH} {v : Value} {n : Nat} {xs : List Value} {rs : List (List Int × List Int)} (h : FRow H v [.r, .r] n xs) (hv : cvs H xs = rowsV rs) : RowsA H v rs ∧ n = rs.length := by
  have hn : n = rs.length := by
    have := congrArg List.length hv
    have hl := h.len
    simp only [cvs, List.length_map, rowsV_len, List.length_cons, List.length_nil] at this hl
    omega
  subst hn
  obtain ⟨a, c, rfl, g⟩ := h.opn 2 rfl
  refine ⟨⟨a, c, rfl, fun h0 => ?_⟩, rfl⟩
  obtain ⟨b, o, cs, rfl, rfl, h1, h2, h3⟩ := g h0
  refine ⟨b, o, cs, rfl, rfl, h1, fun i hi => ?_⟩
  obtain ⟨h4, h5⟩ := h3 i hi
  obtain ⟨p, _, e, kp, q, _, rfl, kq, rfl⟩ := h.elemn 2 rfl hi
  rw [e] at h5
  obtain ⟨g1, g2⟩ := rowsV_get hi
  have e0 : (elm 2 xs i)[0]? = some p := by rw [e]; rfl
  have e1 : (elm 2 xs i)[1]? = some q := by rw [e]; rfl
  rw [elm_get (by omega)] at e0 e1
  rw [← hv] at g1 g2
  simp only [cvs, List.getElem?_map] at g1 g2
  rw [Nat.add_zero] at e0
  rw [e0, Option.map_some, cv_row kp.1] at g1
  rw [e1, Option.map_some, cv_row kq.1] at g2
  injection g1 with g1; injection g1 with g1
  injection g2 with g2; injection g2 with g2
  refine ⟨p, q, h5 0 p rfl, h5 1 q rfl, ?_, ?_⟩
  · rw [← g1]; exact kp.1
  · rw [← g2]; exact kq.1
theorem LD.rows {c : Option Nat} {H0 H : AH} {L : List It} {v : Value} {n : Nat} {ys : List Value} {rs : List (List Int × List Int)} (h : LD c H0 H L) (i : Nat) (hi : L[i]? = some (.cmp (.row v [.r, .r] n ys) (rowsV rs))) : RowsA H v rs ∧ n = rs.length := by
  obtain ⟨h1, h2⟩ := h.ok i _ hi
  exact FRow.rows (OT.frow h1) h2
theorem TabOk.ownOk {B : Nat → Prop} {H : AH} {v : Value} {ks : List CK} {n : Nat} {xs : List Value} (s : Nat) (hs : ks.length = s) (h : TabOk B H v ks n xs) : Go.Proofs.Ytamlfhngenndfaa.AM.ownOk v s H = true := by
  subst hs
  rcases h.row with ⟨rfl, rfl⟩ | ⟨b, o, cs, rfl, h1, h2, h3⟩
  · simp [Go.Proofs.Ytamlfhngenndfaa.AM.ownOk]
  · simp [Go.Proofs.Ytamlfhngenndfaa.AM.ownOk, h1]
/-- An element of a table that is only read: its rows, held as rows that are only read. -/
theorem LX.elem {c0 : Option Nat} {H0 H : AH} {L : List Ix} {v : Value} {n : Nat} {xs : List Value} {rs : List (List Int × List Int)} {k : Nat} (q : LX c0 H0 H L) (i : Nat) (hi : L[i]? = some (.ftab v [.r, .r] n xs (rowsV rs))) (hk : k < rs.length) :
    ∃ b o cs p p', v = .slice (some ⟨b, o, none⟩) n 2 ∧ Go.Proofs.Ytamlfhngenndfaa.AM.rd H b = some cs ∧ cs[o + k * 2]? = some p ∧ cs[o + k * 2 + 1]? = some p' ∧ LX c0 H0 H (.fro p rs[k].1 :: .fro p' rs[k].2 :: L) := by
  obtain ⟨B, h⟩ := q
  obtain ⟨t1, t2⟩ := h.ok i _ hi
  have hn : n = rs.length := (FRow.rows t1.fr t2).2
  have hl := t1.fr.len
  simp only [List.length_cons, List.length_nil] at hl
  rcases t1.fr.row with ⟨_, e⟩ | ⟨b, o, cs, e, h2, h3, h4⟩
  · omega
  · obtain ⟨g1, g2⟩ := rowsV_get hk
    have e0 := List.getElem?_eq_getElem (l := xs) (i := k * 2) (by omega)
    have e1 := List.getElem?_eq_getElem (l := xs) (i := k * 2 + 1) (by omega)
    have k0 := t1.fr.ok k 0 .r (xs[k * 2]'(by omega)) (by omega) rfl e0
    have k1 := t1.fr.ok k 1 .r _ (by omega) rfl e1
    rw [← t2] at g1 g2
    simp only [cvs, List.getElem?_map, e0, e1, Option.map_some, cv_row k0.1, cv_row k1.1, Option.some.injEq, CV.r.injEq] at g1 g2
    refine ⟨b, o, cs, _, _, by rw [e]; rfl, h2, h4 _ _ e0, by rw [Nat.add_assoc]; exact h4 _ _ e1, B, ?_⟩
    have m0 : ∀ g, blkOf (xs[k * 2]'(by omega)) = some g → B g := fun g hg => t1.base g (.inr ⟨_, List.getElem_mem _, hg⟩)
    have m1 : ∀ g, blkOf (xs[k * 2 + 1]'(by omega)) = some g → B g := fun g hg => t1.base g (.inr ⟨_, List.getElem_mem _, hg⟩)
    have h5 : LB B c0 H0 H (.fro _ rs[k].2 :: L) := h.add (x := .fro (xs[k * 2 + 1]'(by omega)) rs[k].2) (Nat.le_refl _) (fun b hb _ => rfl) h.cur ⟨by rw [← g2]; exact k1.1, m1⟩ fun b hb => hb.elim
    exact h5.add (x := .fro (xs[k * 2]'(by omega)) rs[k].1) (Nat.le_refl _) (fun b hb _ => rfl) h.cur ⟨by rw [← g1]; exact k0.1, m0⟩ fun b hb => hb.elim

/-- A row's elements, each as its cells' values. -/
def chunk (s : Nat) (V : List CV) (n : Nat) : List (List CV) := (List.range n).map fun i => (V.drop (i * s)).take s
theorem chunk_len {s n : Nat} {V : List CV} : (chunk s V n).length = n := by simp [chunk]
theorem chunk_get {s n i : Nat} {H : AH} {xs : List Value} (h : i < n) : (chunk s (cvs H xs) n)[i]? = some ((elm s xs i).map (cv H)) := by
  simp [chunk, h, elm, cvs]
theorem chunk_get' {s n i : Nat} {H : AH} {xs : List Value} (h : i < (chunk s (cvs H xs) n).length) : (chunk s (cvs H xs) n)[i] = (elm s xs i).map (cv H) := by
  have := chunk_get (s := s) (H := H) (xs := xs) (by rwa [chunk_len] at h : i < n)
  rw [List.getElem?_eq_getElem h] at this
  exact Option.some.inj this

set_option maxHeartbeats 4000000 in
theorem indexFuncExpr_ok {H : AH} {v : Value} {n : Nat} {xs : List Value} {g : FuncId} {p : List CV → Bool} (hv : FRow H v kExpr n xs) (hl : n ≤ 1073741824)
    (hp : ∀ (L : AH) x, All2 (H ++ L) kExpr x → CallsA Try.prog g #[.agg x.toArray] (H ++ L) fun r H' => r = .bool (p (x.map (cv (H ++ L)))) ∧ ∃ K, H' = (H ++ L) ++ K) :
    CallsA Try.prog 87 #[v, .func (.func g) #[] #[]] H fun r H' => r = .int .i64 (idxF p (chunk 7 (cvs H xs) n)) ∧ ∃ K, H' = H ++ K := by
  obtain ⟨a, c, rfl, gv⟩ := hv.opn 7 rfl
  refine w87 ?_
  unfold k87
  simp -implicitDefEqProofs only [kz, kk0, kk1, kk2, kk3, ↓two_true, ↓two_false, oS_some, oM_some, mkv, aggAt, Nat.reduceLeDiff, Nat.reduceSub, Nat.reduceMul, implies_true, Nat.reduceEqDiff, reduceIte, Nat.reduceAdd, Nat.reduceBEq, reduceCtorEq, ix43, ld77, ln43]
  refine rW_loop (σ := Nat) (fun i tm H' => tm 0 = .slice a n c ∧ tm 1 = .func (.func g) #[] #[] ∧ tm 7 = .int .i64 n ∧ tm 8 = .int .i64 i ∧ (∃ K, H' = H ++ K) ∧ i ≤ n ∧ ∀ x ∈ (chunk 7 (cvs H xs) n).take i, p x = false) (fun i => n - i) 0 ?_ ?_
  · simp -implicitDefEqProofs [kk0, kk1, kk2, kk3, rW_block, ↓two_true, ↓two_false, rW_cond, rO_guard, oS_some, oM_some, mkv, aggAt, Nat.reduceLeDiff, Nat.reduceSub, Nat.reduceMul, cond_true, cond_false, Option.bind_some, List.length_append, List.length_cons, List.length_nil, List.append_assoc, List.cons_append, List.nil_append, List.set_cons_zero, List.set_cons_succ, List.size_toArray, List.all_cons, List.all_nil, List.drop_zero, List.drop_succ_cons, List.take_succ_cons, List.take_zero, List.mem_cons, Prod.mk.injEq, List.not_mem_nil, implies_true, List.getElem?_toArray, List.getElem?_cons_zero, List.getElem?_cons_succ, List.getElem?_nil, Option.getD_some, Option.getD_none, Nat.reduceEqDiff, reduceIte, Nat.reduceAdd, List.map_toArray, List.map_cons, List.map_nil, Bool.false_eq_true, Nat.reduceBEq, Option.map_some, Option.map_none, reduceCtorEq, ix43, ld77, ln43]
  · rintro i tm H' ⟨h0, h1, h7, h8, ⟨K, rfl⟩, hi, hn⟩
    simp -implicitDefEqProofs only [kz, kk0, kk1, kk2, kk3, ↓two_true, ↓two_false, oS_some, oM_some, mkv, aggAt, Nat.reduceLeDiff, Nat.reduceSub, Nat.reduceMul, implies_true, Nat.reduceEqDiff, reduceIte, Nat.reduceAdd, Nat.reduceBEq, reduceCtorEq, ix43, ld77, ln43, h0, h1, h7, h8]
    refine two_intro (fun hc => ?_) (fun hc => ?_)
    · have hc' : i < n := by simpa using hc
      obtain ⟨b, o, cs, rfl, rfl, hrd, hle, hcell⟩ := gv (by omega)
      have g1 : rd (H ++ K) b = some cs := by rw [rdl (by simp [hrd]), hrd]
      have l1 : ld Try.prog 77 (o + i * 7) cs = some (.agg (elm 7 xs i).toArray) := by rw [ld77]; exact (hcell i hc').1
      have x1 := hv.elemn 7 rfl hc'
      have e := fun Φ => (hp K _ (x1.mono (L := K))).eqV (Φ := Φ)
      rw [x1.mapcv] at e
      have hci : i < (chunk 7 (cvs H xs) n).length := by rw [chunk_len]; exact hc'
      have hcg := chunk_get' hci
      simp -implicitDefEqProofs only [kz, kk0, kk1, kk2, kk3, ↓two_true, ↓two_false, oS_some, oM_some, mkv, aggAt, Nat.reduceLeDiff, Nat.reduceSub, Nat.reduceMul, implies_true, Nat.reduceEqDiff, reduceIte, Nat.reduceAdd, Nat.reduceBEq, reduceCtorEq, ix43, ld77, ln43, h0, h1, h7, h8, Int.toNat_natCast, g1, l1, Array.empty_append, Array.append_empty, e, IntWalk.i64_in (↑i + 1) (by omega)]
      refine ⟨⟨by omega, by omega⟩, two_intro (fun h => ?_) (fun h => ?_)⟩
      · exact ⟨by rw [idxF_some hci (by rw [hcg]; exact h) hn], _, rfl⟩
      · refine ⟨i + 1, by omega, by simp, ⟨_, rfl⟩, hc', ?_⟩
        intro x hx
        rw [List.take_succ_eq_append_getElem hci] at hx
        rcases List.mem_append.1 hx with hx | hx
        · exact hn x hx
        · rw [List.mem_singleton.1 hx, hcg]; exact h
    · have hc' : ¬ i < n := by simpa using hc
      have hil : i = n := by omega
      subst hil
      rw [List.take_of_length_le (by rw [chunk_len]; exact Nat.le_refl _)] at hn
      exact ⟨by rw [idxF_none hn], _, rfl⟩

set_option maxHeartbeats 4000000 in
theorem containsFuncExpr_ok {H : AH} {v : Value} {n : Nat} {xs : List Value} {g : FuncId} {p : List CV → Bool} (hv : FRow H v kExpr n xs) (hl : n ≤ 1073741824)
    (hp : ∀ (L : AH) x, All2 (H ++ L) kExpr x → CallsA Try.prog g #[.agg x.toArray] (H ++ L) fun r H' => r = .bool (p (x.map (cv (H ++ L)))) ∧ ∃ K, H' = (H ++ L) ++ K) :
    CallsA Try.prog 57 #[v, .func (.func g) #[] #[]] H fun r H' => r = .bool ((chunk 7 (cvs H xs) n).any p) ∧ ∃ K, H' = H ++ K := by
  have e := fun Φ => (indexFuncExpr_ok hv hl hp).eqV (Φ := Φ)
  refine w57 ?_
  unfold k57
  simp -implicitDefEqProofs only [kz, kk0, kk1, kk2, kk3, ↓two_true, ↓two_false, oS_some, oM_some, mkv, aggAt, Nat.reduceLeDiff, Nat.reduceSub, Nat.reduceMul, implies_true, Nat.reduceEqDiff, reduceIte, Nat.reduceAdd, Nat.reduceBEq, reduceCtorEq, e, idxF_any]
  exact ⟨_, rfl⟩

def numsOk (l : List Int) : Bool := inB l.length 1 300 && l.all numOk

theorem numsOk1_eq {x : Int} {H : AH} {Φ : Value → AH → Prop} : CallsA Try.prog 104 #[.int .i64 x] H Φ = Φ (.bool (!numOk x)) H := by
  have : CallsA Try.prog 104 #[.int .i64 x] H fun r H' => r = .bool (!numOk x) ∧ H' = H := by
    refine w104 ?_
    unfold k104
    simp -implicitDefEqProofs only [kz, kk0, kk1, kk2, kk3, ↓two_true, ↓two_false, oS_some, oM_some, mkv, aggAt, Nat.reduceLeDiff, Nat.reduceSub, Nat.reduceMul, implies_true, Nat.reduceEqDiff, reduceIte, Nat.reduceAdd, Nat.reduceBEq, reduceCtorEq, implNumOk_eq]
  exact this.eq0

set_option maxHeartbeats 4000000 in
theorem implNumsOk_ok {H : AH} {v : Value} {l : List Int} (hv : IntRow H v l) (hl : l.length < 4611686018427387904) : CallsA Try.prog 88 #[v] H fun r H' => r = .bool (numsOk l) ∧ H' = H := by
  have ec := fun Φ => (containsFuncI_ok (H := H) hv hl (fun x H Φ => numsOk1_eq)).eq0 (Φ := Φ)
  obtain ⟨a, c, rfl, _⟩ := hv.op
  refine w88 ?_
  unfold k88
  simp -implicitDefEqProofs only [kz, kk0, kk1, kk2, kk3, ↓two_true, ↓two_false, oS_some, oM_some, mkv, aggAt, Nat.reduceLeDiff, Nat.reduceSub, Nat.reduceMul, implies_true, Nat.reduceEqDiff, reduceIte, Nat.reduceAdd, Nat.reduceBEq, reduceCtorEq, ln58, ec, within_eq]
  unfold numsOk
  refine two_intro (fun h => ?_) (fun h => ?_)
  · rw [h, any_not]; simp
  · rw [h]; rfl
theorem implNumsOk_eq {H : AH} {v : Value} (hv : OkI H v) (hl : (rowI H v).length < 4611686018427387904) {Φ : Value → AH → Prop} : CallsA Try.prog 88 #[v] H Φ = Φ (.bool (numsOk (rowI H v))) H := (implNumsOk_ok hv hl).eq0

set_option maxHeartbeats 4000000 in
theorem l9Nums_ok {H : AH} {v : Value} {l : List Int} (hv : IntRow H v l) (hl : l.length < 4611686018427387904) : CallsA Try.prog 84 #[v] H fun r H' => r = .bool (numsOk l) ∧ H' = H := by
  obtain ⟨a, c, rfl, gv⟩ := hv.op
  refine w84 ?_
  unfold k84
  simp -implicitDefEqProofs only [kz, kk0, kk1, kk2, kk3, ↓two_true, ↓two_false, oS_some, oM_some, mkv, aggAt, Nat.reduceLeDiff, Nat.reduceSub, Nat.reduceMul, implies_true, Nat.reduceEqDiff, reduceIte, Nat.reduceAdd, Nat.reduceBEq, reduceCtorEq, ix58, ld3, ln58]
  refine rW_loop (σ := Nat) (fun i tm H' => tm 0 = .slice a l.length c ∧ tm 3 = .int .i64 i ∧ H' = H ∧ i ≤ l.length ∧ ∀ x ∈ l.take i, numOk x = true) (fun i => l.length - i) 0 ?_ ?_
  · simp -implicitDefEqProofs [kk0, kk1, kk2, kk3, rW_block, ↓two_true, ↓two_false, rW_cond, rO_guard, oS_some, oM_some, mkv, aggAt, Nat.reduceLeDiff, Nat.reduceSub, Nat.reduceMul, cond_true, cond_false, Option.bind_some, List.length_append, List.length_cons, List.length_nil, List.append_assoc, List.cons_append, List.nil_append, List.set_cons_zero, List.set_cons_succ, List.size_toArray, List.all_cons, List.all_nil, List.drop_zero, List.drop_succ_cons, List.take_succ_cons, List.take_zero, List.mem_cons, Prod.mk.injEq, List.not_mem_nil, implies_true, List.getElem?_toArray, List.getElem?_cons_zero, List.getElem?_cons_succ, List.getElem?_nil, Option.getD_some, Option.getD_none, Nat.reduceEqDiff, reduceIte, Nat.reduceAdd, List.map_toArray, List.map_cons, List.map_nil, Bool.false_eq_true, Nat.reduceBEq, Option.map_some, Option.map_none, reduceCtorEq, ix58, ld3, ln58]
  · rintro i tm H' ⟨h0, h3, rfl, hi, hn⟩
    simp -implicitDefEqProofs only [kz, kk0, kk1, kk2, kk3, ↓two_true, ↓two_false, oS_some, oM_some, mkv, aggAt, Nat.reduceLeDiff, Nat.reduceSub, Nat.reduceMul, implies_true, Nat.reduceEqDiff, reduceIte, Nat.reduceAdd, Nat.reduceBEq, reduceCtorEq, ix58, ld3, ln58, h0, h3, l1In_eq]
    refine two_intro (fun hc => ?_) (fun hc => ?_)
    · have hc' : i < l.length := by simpa using hc
      obtain ⟨b, o, cs, rfl, rfl, hrd, _, hcell⟩ := gv (by omega)
      simp -implicitDefEqProofs only [kz, kk0, kk1, kk2, kk3, ↓two_true, ↓two_false, oS_some, oM_some, mkv, aggAt, Nat.reduceLeDiff, Nat.reduceSub, Nat.reduceMul, implies_true, Nat.reduceEqDiff, reduceIte, Nat.reduceAdd, Nat.reduceBEq, reduceCtorEq, ix58, ld3, ln58, h0, h3, specNumOk_eq, Int.toNat_natCast, Nat.mul_one, hrd, hcell i hc', IntWalk.i64_in (↑i + 1) (by omega)]
      refine ⟨⟨by omega, by omega⟩, two_intro (fun h => ?_) (fun h => ?_)⟩
      · have hb : numOk l[i] = false := by simpa using h
        rw [numsOk, all_take_false hc' hb]
        simp
      · refine ⟨i + 1, by omega, by simp, hc', fun x hx => ?_⟩
        rw [List.take_succ_eq_append_getElem hc'] at hx
        rcases List.mem_append.1 hx with hx | hx
        · exact hn x hx
        · rw [List.mem_singleton.1 hx]; simpa using h
    · have hc' : ¬ i < l.length := by simpa using hc
      have hil : i = l.length := by omega
      subst hil
      rw [List.take_length] at hn
      have hall : l.all numOk = true := List.all_eq_true.2 hn
      rw [numsOk, hall]
      simp
theorem l9Nums_eq {H : AH} {v : Value} (hv : OkI H v) (hl : (rowI H v).length < 4611686018427387904) {Φ : Value → AH → Prop} : CallsA Try.prog 84 #[v] H Φ = Φ (.bool (numsOk (rowI H v))) H := (l9Nums_ok hv hl).eq0

structure Nd where
  k : Int
  a : Int
  b : Int
  s : Int
  o : Int
  w : Int
  nums : List Int
def ndOf : List CV → Nd
  | [.i k, .i a, .i b, .i s, .i o, .i w, .r l] => ⟨k, a, b, s, o, w, l⟩
  | _ => ⟨0, 0, 0, 0, 0, 0, []⟩
def ndOk (x : Nd) : Bool :=
  (x.k == 1 && (x.a == 0 && (x.b == 0 && ((x.s == 0 && (x.o == 0 && x.w == 0)) && numsOk x.nums)))) ||
  (x.k == 2 && (inB x.a 0 25 && (x.b == 0 && ((x.s == 0 && (x.o == 0 && x.w == 0)) && (x.nums.length : Int) == 0)))) ||
  (x.k == 3 && (inB x.a 0 25 && ((x.s == 0 && (x.o == 0 && x.w == 0)) && (x.nums.length : Int) == 0))) ||
  (x.k == 4 && (x.a == 0 && (funOne x.s x.o x.w && (x.nums.length : Int) == 0))) ||
  (x.k == 5 && (funTwo x.s x.o x.w && (x.nums.length : Int) == 0))
def gI (l : List Int) (i : Int) : Int := l.getD i.toNat 0
/-- How many own nodes a node has behind those that are told. -/
def nxt (own : List Int) (x : Nd) : Option Int :=
  if x.k < 3 then some 1 else
  if (x.k = 5 ∧ x.a ≠ (own.length : Int) - 1) ∨ (x.k ≠ 5 ∧ x.b ≠ (own.length : Int) - 1) ∨ own.length = 0 then none else
  if x.k ≠ 5 then some (1 + gI own ((own.length : Int) - 1)) else
  if (own.length : Int) - 1 - gI own ((own.length : Int) - 1) < 0 ∨ x.b ≠ (own.length : Int) - 1 - gI own ((own.length : Int) - 1) then none else
  some (1 + gI own ((own.length : Int) - 1) + gI own ((own.length : Int) - 1 - gI own ((own.length : Int) - 1)))
def ownG : List Int → List Nd → Option (List Int)
  | acc, [] => some acc
  | acc, x :: t => match nxt acc x with
    | none => none
    | some k => ownG (acc ++ [k]) t
def trOk (l : List Nd) : Bool := inB l.length 1 60 && (l.all ndOk && (match ownG [] l with | some w => gI w ((l.length : Int) - 1) == l.length | none => false))
def ndL (V : List CV) (n : Nat) : List Nd := (chunk 7 V n).map ndOf
theorem ndL_len {V : List CV} {n : Nat} : (ndL V n).length = n := by simp [ndL, chunk_len]
theorem ndL_get {H : AH} {xs : List Value} {n i : Nat} (h : i < n) : (ndL (cvs H xs) n)[i]? = some (ndOf ((elm 7 xs i).map (cv H))) := by
  simp only [ndL, List.getElem?_map, chunk_get h, Option.map_some]
/-- Each node has between one and so many as stand up to it. -/
def OwB (own : List Int) : Prop := ∀ (j : Nat) x, own[j]? = some x → 1 ≤ x ∧ x ≤ j + 1
theorem OwB.nil : OwB [] := fun j x h => by simp at h
theorem gI_get {l : List Int} {i : Nat} (h : i < l.length) : l[i]? = some (gI l i) := by
  simp [gI, List.getD_eq_getElem?_getD, List.getElem?_eq_getElem h]
theorem OwB.g {own : List Int} (h : OwB own) {i : Nat} (hi : i < own.length) : 1 ≤ gI own i ∧ gI own i ≤ i + 1 := h i _ (gI_get hi)
theorem OwB.snoc {own : List Int} (h : OwB own) {k : Int} (h1 : 1 ≤ k) (h2 : k ≤ own.length + 1) : OwB (own ++ [k]) := by
  intro j x hx
  rcases Nat.lt_trichotomy j own.length with hj | hj | hj
  · rw [List.getElem?_append_left hj] at hx; exact h j x hx
  · subst hj
    simp at hx; subst hx; exact ⟨h1, h2⟩
  · rw [List.getElem?_eq_none (by simp; omega)] at hx; cases hx
theorem OwB.nxt {own : List Int} (h : OwB own) {x : Nd} {k : Int} (hk : nxt own x = some k) : OwB (own ++ [k]) := by
  unfold Go.Proofs.Ytamlfhngenndfaa.AM.nxt at hk
  split at hk
  · cases hk; exact h.snoc (by omega) (by omega)
  · split at hk
    · cases hk
    · rename_i h0
      have hl : 0 < own.length := by omega
      have e1 : (own.length : Int) - 1 = ((own.length - 1 : Nat) : Int) := by omega
      have g1 := h.g (i := own.length - 1) (by omega)
      rw [e1] at hk
      split at hk
      · cases hk; exact h.snoc (by omega) (by omega)
      · split at hk
        · cases hk
        · rename_i h2
          have e2 : ((own.length - 1 : Nat) : Int) - gI own ((own.length - 1 : Nat) : Int) = ((((own.length - 1 : Nat) : Int) - gI own ((own.length - 1 : Nat) : Int)).toNat : Int) := by omega
          have g2 := h.g (i := (((own.length - 1 : Nat) : Int) - gI own ((own.length - 1 : Nat) : Int)).toNat) (by omega)
          rw [← e2] at g2
          cases hk; exact h.snoc (by omega) (by omega)
theorem all2_expr {H : AH} {x : List Value} (h : All2 H kExpr x) : ∃ k a b s o w y, x = [.int .i64 k, .int .i64 a, .int .i64 b, .int .i64 s, .int .i64 o, .int .i64 w, y] ∧ KOk H .r y ∧ ndOf (x.map (cv H)) = ⟨k, a, b, s, o, w, rowI H y⟩ := by
  obtain ⟨y0, _, rfl, ⟨a0, rfl⟩, y1, _, rfl, ⟨a1, rfl⟩, y2, _, rfl, ⟨a2, rfl⟩, y3, _, rfl, ⟨a3, rfl⟩, y4, _, rfl, ⟨a4, rfl⟩, y6, _, rfl, ⟨a5, rfl⟩, y5, _, rfl, k5, rfl⟩ := h
  refine ⟨a0, a1, a2, a3, a4, a5, y5, rfl, k5, ?_⟩
  simp only [List.map_cons, List.map_nil, cv_row k5.1, cv_int, ndOf]

set_option maxHeartbeats 4000000 in
theorem implNodeOk_el {H : AH} {x : List Value} (hx : All2 H kExpr x) : CallsA Try.prog 59 #[.agg x.toArray] H fun r H' => r = .bool (ndOk (ndOf (x.map (cv H)))) ∧ ∃ K, H' = H ++ K := by
  obtain ⟨k, a, b, s, o, w, y, rfl, ky, e⟩ := all2_expr hx
  rw [e]
  obtain ⟨a', c', e1⟩ := ky.1.slice
  have i1 : IntRow H y (rowI H y) := ky.1
  have w1 := ky.2
  generalize rowI H y = m at *
  subst e1
  have en := fun (L : AH) Φ => implNumsOk_eq (H := H ++ L) (Φ := Φ) i1.mono.ok (by rw [i1.mono.row]; omega)
  have er := fun (L : AH) => (i1.mono (L := L)).row
  refine w59 ?_
  unfold k59
  simp -implicitDefEqProofs only [kz, kk0, kk1, kk2, kk3, ↓two_true, ↓two_false, oS_some, oM_some, mkv, aggAt, Nat.reduceLeDiff, Nat.reduceSub, Nat.reduceMul, implies_true, Nat.reduceEqDiff, reduceIte, Nat.reduceAdd, Nat.reduceBEq, reduceCtorEq, bd61, ef61, eg61, fa77_0, fa77_1, fa77_2, fa77_3, fa77_4, ld3, ld58, ld61, ln58, en, er, within_eq, implFunOne_eq, implFunTwo_eq]
  simp +contextual [two, ndOk]

set_option maxHeartbeats 4000000 in
theorem treeOk1_el {H : AH} {x : List Value} (hx : All2 H kExpr x) : CallsA Try.prog 58 #[.agg x.toArray] H fun r H' => r = .bool (!ndOk (ndOf (x.map (cv H)))) ∧ ∃ K, H' = H ++ K := by
  have hl : x.length = 7 := hx.len
  have et : x.take 7 = x := List.take_of_length_le (by omega)
  have e := fun (L : AH) Φ => (implNodeOk_el (hx.mono (L := L))).eqV (Φ := Φ)
  simp only [hx.mapcv] at e
  refine w58 ?_
  unfold k58
  simp -implicitDefEqProofs only [kz, kk0, kk1, kk2, kk3, ↓two_true, ↓two_false, oS_some, oM_some, mkv, aggAt, Nat.reduceLeDiff, Nat.reduceSub, Nat.reduceMul, implies_true, Nat.reduceEqDiff, reduceIte, Nat.reduceAdd, Nat.reduceBEq, reduceCtorEq, ld77, et, e]
  exact ⟨by omega, _, rfl⟩
theorem any_nd {V : List CV} {n : Nat} : ((chunk 7 V n).any fun V => !ndOk (ndOf V)) = !(ndL V n).all ndOk := by
  unfold ndL
  rw [List.all_map, List.not_all_eq_any_not]
  rfl
theorem nodeEnd {H L : AH} {k : Int} {ok : Bool} {x : Nd} {acc : List Int} (h1 : ok = true → ndOk x = true ∧ nxt acc x = some k) (h2 : ok = false → ndOk x = false ∨ nxt acc x = none) :
    (∃ k' ok', Value.tuple #[.int .i64 k, .bool ok] = .tuple #[.int .i64 k', .bool ok'] ∧ (ok' = true → ndOk x = true ∧ nxt acc x = some k') ∧ (ok' = false → ndOk x = false ∨ nxt acc x = none)) ∧ ∃ K, H ++ L = H ++ K := ⟨⟨k, ok, rfl, h1, h2⟩, L, rfl⟩

set_option maxHeartbeats 4000000 in
theorem l9Node_el {H : AH} {x : List Value} {own : Value} {acc : List Int} (hx : All2 H kExpr x) (ho : IntRow H own acc) (hb : OwB acc) (hl : acc.length ≤ 60) :
    CallsA Try.prog 55 #[.agg x.toArray, .int .i64 acc.length, own] H fun r H' => (∃ k ok, r = .tuple #[.int .i64 k, .bool ok] ∧ (ok = true → ndOk (ndOf (x.map (cv H))) = true ∧ nxt acc (ndOf (x.map (cv H))) = some k) ∧ (ok = false → ndOk (ndOf (x.map (cv H))) = false ∨ nxt acc (ndOf (x.map (cv H))) = none)) ∧ ∃ K, H' = H ++ K := by
  obtain ⟨k, a, b, s, o, w, y, rfl, ky, e⟩ := all2_expr hx
  rw [e]
  obtain ⟨a', c', e1⟩ := ky.1.slice
  have i1 : IntRow H y (rowI H y) := ky.1
  have w1 := ky.2
  generalize rowI H y = m at *
  subst e1
  have en := fun (L : AH) Φ => l9Nums_eq (H := H ++ L) (Φ := Φ) i1.mono.ok (by rw [i1.mono.row]; omega)
  have er := fun (L : AH) => (i1.mono (L := L)).row
  obtain ⟨ao, co, rfl, go⟩ := ho.op
  refine w55 ?_
  unfold k55
  have hx0 : OwB acc := hb
  by_cases hk1 : k = 1
  · subst hk1
    simp -implicitDefEqProofs only [kz, kk0, kk1, kk2, kk3, ↓two_true, ↓two_false, oS_some, oM_some, mkv, aggAt, Nat.reduceLeDiff, Nat.reduceSub, Nat.reduceMul, implies_true, Nat.reduceEqDiff, reduceIte, Nat.reduceAdd, Nat.reduceBEq, reduceCtorEq, al61, bd61, ef61, eg61, fa77_0, fa77_1, fa77_2, fa77_3, fa77_4, ix58, ld3, ld58, ld61, ln58, st61, en, er, l1In_eq, specFunOne_eq, specFunTwo_eq, Int.reduceBEq]
    repeat' refine two_intro (fun h => ?_) (fun h => ?_)
    all_goals refine nodeEnd (fun h0 => ?_) (fun h0 => ?_)
    all_goals simp_all [ndOk, nxt]
  by_cases hk2 : k = 2
  · subst hk2
    simp -implicitDefEqProofs only [kz, kk0, kk1, kk2, kk3, ↓two_true, ↓two_false, oS_some, oM_some, mkv, aggAt, Nat.reduceLeDiff, Nat.reduceSub, Nat.reduceMul, implies_true, Nat.reduceEqDiff, reduceIte, Nat.reduceAdd, Nat.reduceBEq, reduceCtorEq, al61, bd61, ef61, eg61, fa77_0, fa77_1, fa77_2, fa77_3, fa77_4, ix58, ld3, ld58, ld61, ln58, st61, en, er, l1In_eq, specFunOne_eq, specFunTwo_eq, Int.reduceBEq]
    repeat' refine two_intro (fun h => ?_) (fun h => ?_)
    all_goals refine nodeEnd (fun h0 => ?_) (fun h0 => ?_)
    all_goals simp_all [ndOk, nxt]
  by_cases hk6 : k ≠ 3 ∧ k ≠ 4 ∧ k ≠ 5
  · obtain ⟨hk3, hk4, hk5⟩ := hk6
    simp -implicitDefEqProofs only [kz, kk0, kk1, kk2, kk3, ↓two_true, ↓two_false, oS_some, oM_some, mkv, aggAt, Nat.reduceLeDiff, Nat.reduceSub, Nat.reduceMul, implies_true, Nat.reduceEqDiff, reduceIte, Nat.reduceAdd, Nat.reduceBEq, reduceCtorEq, al61, bd61, ef61, eg61, fa77_0, fa77_1, fa77_2, fa77_3, fa77_4, ix58, ld3, ld58, ld61, ln58, st61, en, er, l1In_eq, specFunOne_eq, specFunTwo_eq, beq_eq_false_iff_ne.2 hk1, beq_eq_false_iff_ne.2 hk2, beq_eq_false_iff_ne.2 hk3, beq_eq_false_iff_ne.2 hk4, beq_eq_false_iff_ne.2 hk5]
    refine nodeEnd (fun h0 => ?_) (fun h0 => ?_)
    all_goals simp_all [ndOk, nxt]
  have hk : k = 3 ∨ k = 4 ∨ k = 5 := by omega
  rcases Nat.eq_zero_or_pos acc.length with hL | hL
  · have hn : nxt acc ⟨k, a, b, s, o, w, m⟩ = none := by unfold nxt; rw [if_neg (by simp only; omega), if_pos (.inr (.inr hL))]
    rw [hL]
    have d1 : decide (((0 : Nat) : Int) < 1) = true := by decide
    have d2 : decide (((0 : Nat) : Int) < 2) = true := by decide
    rcases hk with rfl | rfl | rfl
    all_goals simp -implicitDefEqProofs only [kz, kk0, kk1, kk2, kk3, ↓two_true, ↓two_false, oS_some, oM_some, mkv, aggAt, Nat.reduceLeDiff, Nat.reduceSub, Nat.reduceMul, implies_true, Nat.reduceEqDiff, reduceIte, Nat.reduceAdd, Nat.reduceBEq, reduceCtorEq, al61, bd61, ef61, eg61, fa77_0, fa77_1, fa77_2, fa77_3, fa77_4, ix58, ld3, ld58, ld61, ln58, st61, en, er, l1In_eq, specFunOne_eq, specFunTwo_eq, Int.reduceBEq, d1, d2]
    all_goals exact nodeEnd (fun h0 => by cases h0) (fun h0 => .inr hn)
  obtain ⟨b0, o0, cs, rfl, rfl, hrd, hle, hcell⟩ := go hL
  have ew : IntKind.i64.wrap ((acc.length : Int) - 1) = ((acc.length - 1 : Nat) : Int) := by rw [IntWalk.i64_in _ (by omega)]; omega
  have e1 : (acc.length : Int) - 1 = ((acc.length - 1 : Nat) : Int) := by omega
  have g1 := hb.g (i := acc.length - 1) (by omega)
  have gc : ∀ j : Nat, j < acc.length → cs[o0 + j]? = some (.int .i64 (gI acc j)) := fun j hj => by
    rw [hcell j hj]; have := gI_get hj; rw [List.getElem?_eq_getElem hj] at this; rw [Option.some.inj this]
  have d1 : decide ((acc.length : Int) < 1) = false := by simp; omega
  have gr : ∀ L, rd (H ++ L) b0 = some cs := fun L => by rw [rdl (by simp [hrd]), hrd]
  have wg : IntKind.i64.wrap (gI acc ((acc.length - 1 : Nat) : Int) + 1) = gI acc ((acc.length - 1 : Nat) : Int) + 1 := IntWalk.i64_in _ (by omega)
  rcases hk with rfl | rfl | rfl
  · simp -implicitDefEqProofs only [kz, kk0, kk1, kk2, kk3, ↓two_true, ↓two_false, oS_some, oM_some, mkv, aggAt, Nat.reduceLeDiff, Nat.reduceSub, Nat.reduceMul, implies_true, Nat.reduceEqDiff, reduceIte, Nat.reduceAdd, Nat.reduceBEq, reduceCtorEq, al61, bd61, ef61, eg61, fa77_0, fa77_1, fa77_2, fa77_3, fa77_4, ix58, ld3, ld58, ld61, ln58, st61, en, er, l1In_eq, specFunOne_eq, specFunTwo_eq, Int.reduceBEq,  d1, ew, Int.toNat_natCast, Nat.mul_one, gr, gc _ (show acc.length - 1 < acc.length by omega), wg]
    refine two_intro (fun h => nodeEnd (fun h0 => by cases h0) fun _ => .inr ?_) (fun h => ⟨by omega, ?_⟩)
    · have h' : b ≠ ((acc.length - 1 : Nat) : Int) := by simpa using h
      unfold nxt; rw [if_neg (by simp only; decide), if_pos (.inr (.inl ⟨by simp only; decide, by simp only; omega⟩))]
    · have h' : b = ((acc.length - 1 : Nat) : Int) := by simpa using h
      have hn : nxt acc ⟨3, a, b, s, o, w, m⟩ = some (gI acc ((acc.length - 1 : Nat) : Int) + 1) := by
        unfold nxt; rw [if_neg (by simp only; decide), if_neg (by simp only; omega), if_pos (by simp only; decide), e1, Int.add_comm]
      clear wg ew e1 gc gr g1 go
      repeat' refine two_intro (fun h1 => ?_) (fun h1 => ?_)
      all_goals refine nodeEnd (fun h0 => ⟨?_, hn⟩) (fun h0 => .inl ?_)
      all_goals simp_all [ndOk]
  · simp -implicitDefEqProofs only [kz, kk0, kk1, kk2, kk3, ↓two_true, ↓two_false, oS_some, oM_some, mkv, aggAt, Nat.reduceLeDiff, Nat.reduceSub, Nat.reduceMul, implies_true, Nat.reduceEqDiff, reduceIte, Nat.reduceAdd, Nat.reduceBEq, reduceCtorEq, al61, bd61, ef61, eg61, fa77_0, fa77_1, fa77_2, fa77_3, fa77_4, ix58, ld3, ld58, ld61, ln58, st61, en, er, l1In_eq, specFunOne_eq, specFunTwo_eq, Int.reduceBEq,  d1, ew, Int.toNat_natCast, Nat.mul_one, gr, gc _ (show acc.length - 1 < acc.length by omega), wg]
    refine two_intro (fun h => nodeEnd (fun h0 => by cases h0) fun _ => .inr ?_) (fun h => ⟨by omega, ?_⟩)
    · have h' : b ≠ ((acc.length - 1 : Nat) : Int) := by simpa using h
      unfold nxt; rw [if_neg (by simp only; decide), if_pos (.inr (.inl ⟨by simp only; decide, by simp only; omega⟩))]
    · have h' : b = ((acc.length - 1 : Nat) : Int) := by simpa using h
      have hn : nxt acc ⟨4, a, b, s, o, w, m⟩ = some (gI acc ((acc.length - 1 : Nat) : Int) + 1) := by
        unfold nxt; rw [if_neg (by simp only; decide), if_neg (by simp only; omega), if_pos (by simp only; decide), e1, Int.add_comm]
      clear wg ew e1 gc gr g1 go
      repeat' refine two_intro (fun h1 => ?_) (fun h1 => ?_)
      all_goals refine nodeEnd (fun h0 => ⟨?_, hn⟩) (fun h0 => .inl ?_)
      all_goals simp_all [ndOk]
  · have hF : (acc.length : Int) < 2 ∨ a ≠ ((acc.length - 1 : Nat) : Int) ∨ b ≠ ((acc.length - 1 : Nat) : Int) - gI acc ((acc.length - 1 : Nat) : Int) ∨ b < 0 → nxt acc ⟨5, a, b, s, o, w, m⟩ = none := by
      intro h
      unfold nxt
      rw [if_neg (by simp only; decide)]
      by_cases h1 : a = (acc.length : Int) - 1
      · rw [if_neg (by simp only; omega), if_neg (by simp only; decide), if_pos (by simp only; rw [e1]; omega)]
      · rw [if_pos (.inl ⟨rfl, h1⟩)]
    have wg2 : IntKind.i64.wrap (((acc.length - 1 : Nat) : Int) - gI acc ((acc.length - 1 : Nat) : Int)) = ((acc.length - 1 : Nat) : Int) - gI acc ((acc.length - 1 : Nat) : Int) := IntWalk.i64_in _ (by omega)
    by_cases hA : 2 ≤ acc.length ∧ a = ((acc.length - 1 : Nat) : Int) ∧ b = ((acc.length - 1 : Nat) : Int) - gI acc ((acc.length - 1 : Nat) : Int) ∧ 0 ≤ b
    · obtain ⟨h2, rfl, hb5, hb0⟩ := hA
      obtain ⟨j, hj⟩ : ∃ j : Nat, b = j := ⟨b.toNat, by omega⟩
      subst hj
      have hjl : j < acc.length := by omega
      have g2 := hb.g hjl
      have d2 : decide ((acc.length : Int) < 2) = false := by simp; omega
      have d3 : decide ((j : Int) < 0) = false := decide_eq_false (by omega)
      have wg3 : IntKind.i64.wrap (gI acc ((acc.length - 1 : Nat) : Int) + gI acc (j : Int)) = gI acc ((acc.length - 1 : Nat) : Int) + gI acc (j : Int) := IntWalk.i64_in _ (by omega)
      have wg4 : IntKind.i64.wrap (gI acc ((acc.length - 1 : Nat) : Int) + gI acc (j : Int) + 1) = gI acc ((acc.length - 1 : Nat) : Int) + gI acc (j : Int) + 1 := IntWalk.i64_in _ (by omega)
      have hn : nxt acc ⟨5, ((acc.length - 1 : Nat) : Int), j, s, o, w, m⟩ = some (gI acc ((acc.length - 1 : Nat) : Int) + gI acc (j : Int) + 1) := by
        unfold nxt
        rw [if_neg (by simp only; decide), if_neg (by simp only; omega), if_neg (by simp only; decide), if_neg (by simp only; rw [e1]; omega), e1, ← hb5]
        try (congr 1; omega)
      have wj : IntKind.i64.wrap (j : Int) = j := IntWalk.i64_in _ (by omega)
      simp -implicitDefEqProofs only [kz, kk0, kk1, kk2, kk3, ↓two_true, ↓two_false, oS_some, oM_some, mkv, aggAt, Nat.reduceLeDiff, Nat.reduceSub, Nat.reduceMul, implies_true, Nat.reduceEqDiff, reduceIte, Nat.reduceAdd, Nat.reduceBEq, reduceCtorEq, al61, bd61, ef61, eg61, fa77_0, fa77_1, fa77_2, fa77_3, fa77_4, ix58, ld3, ld58, ld61, ln58, st61, en, er, l1In_eq, specFunOne_eq, specFunTwo_eq, Int.reduceBEq,  d2, d3, ew, wg2, wg3, wg4, Int.toNat_natCast, Nat.mul_one, gr, gc _ (show acc.length - 1 < acc.length by omega), gc _ hjl, ← hb5, wj, bne_self_eq_false]
      clear wg wg2 wg3 wg4 ew e1 gc gr g1 go hF wj
      refine ⟨by omega, by omega, by omega, ?_⟩
      repeat' refine two_intro (fun h1 => ?_) (fun h1 => ?_)
      all_goals refine nodeEnd (fun h0 => ⟨?_, hn⟩) (fun h0 => .inl ?_)
      all_goals simp_all [ndOk]
    · have hn := hF (by omega)
      simp -implicitDefEqProofs only [kz, kk0, kk1, kk2, kk3, ↓two_true, ↓two_false, oS_some, oM_some, mkv, aggAt, Nat.reduceLeDiff, Nat.reduceSub, Nat.reduceMul, implies_true, Nat.reduceEqDiff, reduceIte, Nat.reduceAdd, Nat.reduceBEq, reduceCtorEq, al61, bd61, ef61, eg61, fa77_0, fa77_1, fa77_2, fa77_3, fa77_4, ix58, ld3, ld58, ld61, ln58, st61, en, er, l1In_eq, specFunOne_eq, specFunTwo_eq, Int.reduceBEq,  ew, wg2, Int.toNat_natCast, Nat.mul_one, gr, gc _ (show acc.length - 1 < acc.length by omega)]
      refine two_intro (fun h => nodeEnd (fun h0 => by cases h0) fun _ => .inr hn) (fun h1 => two_intro (fun h => nodeEnd (fun h0 => by cases h0) fun _ => .inr hn) (fun h2 => ⟨by omega, two_intro (fun h => nodeEnd (fun h0 => by cases h0) fun _ => .inr hn) (fun h3 => two_intro (fun h => nodeEnd (fun h0 => by cases h0) fun _ => .inr hn) (fun h4 => ?_))⟩))
      exact absurd ⟨by simp at h1; omega, by simpa using h2, by simpa using h3, by simpa using h4⟩ hA

theorem oA_own1 {H : AH} {B : Blk} {v : Value} {l : List Int} {x : Int} {Φ : Value → AH → Prop} (hv : OwnRow (H ++ [B]) v l) (hl : l.length + 1 ≤ 1073741824)
    (hk : ∀ a c H', OwnRow H' (.slice a (l.length + 1) c) (l ++ [x]) → App (H ++ [B]) v H' (.slice a (l.length + 1) c) → Φ (.slice a (l.length + 1) c) H') :
    oA (app 1 v (.slice (some ⟨H.length + 1, 0, none⟩) 1 1) (H ++ [B, ⟨[.int .i64 x], .own⟩])) Φ := by
  have e : (H ++ [B, ⟨[.int .i64 x], .own⟩] : AH) = (H ++ [B]) ++ [⟨[.int .i64 x], .own⟩] := by simp
  have e2 : H.length + 1 = (H ++ [B]).length := by simp
  rw [e, e2]
  refine oA_own (hv.mono (L := [⟨[.int .i64 x], .own⟩])) intRow1 (by simpa using hl) fun a c H' o a' => hk a c H' (by simpa using o) ?_
  refine ⟨Nat.le_trans (by simp) a'.len, fun b hb hn => ?_, fun b hb => ?_⟩
  · rw [a'.keep b (by simp at hb ⊢; omega) hn, List.getElem?_append_left hb]
  · rcases a'.new b hb with h | h
    · exact .inl h
    · right; simp at h ⊢; omega
theorem ndOk_k {x : Nd} (h : ndOk x = true) : x.k = 1 ∨ x.k = 2 ∨ x.k = 3 ∨ x.k = 4 ∨ x.k = 5 := by
  unfold ndOk at h
  simp only [Bool.or_eq_true, Bool.and_eq_true, beq_iff_eq] at h
  omega

set_option maxHeartbeats 4000000 in
theorem owned_ok {H : AH} {v : Value} {n : Nat} {xs : List Value} (hv : FRow H v kExpr n xs) (hl : n ≤ 60) (hok : (ndL (cvs H xs) n).all ndOk = true) :
    CallsA Try.prog 60 #[.agg #[v]] H fun r H' => (∃ w ok, r = .tuple #[w, .bool ok] ∧ ((ok = true ∧ ∃ ow, ownG [] (ndL (cvs H xs) n) = some ow ∧ ow.length = n ∧ OwB ow ∧ OwnRow H' w ow) ∨ (ok = false ∧ ownG [] (ndL (cvs H xs) n) = none))) ∧ ∃ K, H' = H ++ K := by
  obtain ⟨a, c, rfl, gv⟩ := hv.opn 7 rfl
  generalize hL : ndL (cvs H xs) n = l at *
  have hll : l.length = n := by rw [← hL, ndL_len]
  refine w60 ?_
  unfold k60
  simp -implicitDefEqProofs only [kz, kk0, kk1, kk2, kk3, ↓two_true, ↓two_false, oS_some, oM_some, mkv, aggAt, Nat.reduceLeDiff, Nat.reduceSub, Nat.reduceMul, implies_true, Nat.reduceEqDiff, reduceIte, Nat.reduceAdd, Nat.reduceBEq, reduceCtorEq, al77, ap58_58, bs58_1, fa45_0, fa77_0, fa77_1, fa77_2, ix43, ix58, ld3, ld43, ld77, ln43, st77]
  refine rW_loop (σ := Option Addr × Nat × List Int) (fun (a', c', acc) tm H' => tm 11 = .slice a n c ∧ tm 12 = .int .i64 n ∧ tm 13 = .int .i64 acc.length ∧ tm 4 = .slice a' acc.length c' ∧ acc.length ≤ n ∧ OwnRow H' (.slice a' acc.length c') acc ∧ (∀ b, blkOf (.slice a' acc.length c') = some b → H.length ≤ b) ∧ (∃ K, H' = H ++ K) ∧ ownG [] l = ownG acc (l.drop acc.length) ∧ OwB acc) (fun s => n - s.2.2.length) (none, 0, []) ?_ ?_
  · simp -implicitDefEqProofs [kk0, kk1, kk2, kk3, rW_block, ↓two_true, ↓two_false, rW_cond, rO_guard, oS_some, oM_some, mkv, aggAt, Nat.reduceLeDiff, Nat.reduceSub, Nat.reduceMul, cond_true, cond_false, Option.bind_some, List.length_append, List.length_cons, List.length_nil, List.append_assoc, List.cons_append, List.nil_append, List.set_cons_zero, List.set_cons_succ, List.size_toArray, List.all_cons, List.all_nil, List.drop_zero, List.drop_succ_cons, List.take_succ_cons, List.take_zero, List.mem_cons, Prod.mk.injEq, List.not_mem_nil, implies_true, List.getElem?_toArray, List.getElem?_cons_zero, List.getElem?_cons_succ, List.getElem?_nil, Option.getD_some, Option.getD_none, Nat.reduceEqDiff, reduceIte, Nat.reduceAdd, List.map_toArray, List.map_cons, List.map_nil, Bool.false_eq_true, Nat.reduceBEq, Option.map_some, Option.map_none, reduceCtorEq, al77, ap58_58, bs58_1, fa45_0, fa77_0, fa77_1, fa77_2, ix43, ix58, ld3, ld43, ld77, ln43, st77, OwB.nil]
    exact ⟨.inl ⟨rfl, rfl⟩, fun b hb => by simp [blkOf] at hb⟩
  · rintro ⟨a', c', acc⟩ tm H1 ⟨h11, h12, h13, h4, hi, ho, hf, he, hown, hb⟩
    simp -implicitDefEqProofs only [kz, kk0, kk1, kk2, kk3, ↓two_true, ↓two_false, oS_some, oM_some, mkv, aggAt, Nat.reduceLeDiff, Nat.reduceSub, Nat.reduceMul, implies_true, Nat.reduceEqDiff, reduceIte, Nat.reduceAdd, Nat.reduceBEq, reduceCtorEq, al77, ap58_58, bs58_1, fa45_0, fa77_0, fa77_1, fa77_2, ix43, ix58, ld3, ld43, ld77, ln43, st77, h11, h12, h13, h4]
    refine two_intro (fun hc' => ?_) (fun hc' => ?_)
    · have hlt : acc.length < n := by simpa using hc'
      obtain ⟨b, o, cs, rfl, rfl, hrd, hle, hcell⟩ := gv (by omega)
      have x1 := hv.elemn 7 rfl hlt
      have hin : l[acc.length]? = some (ndOf ((elm 7 xs acc.length).map (cv H))) := by rw [← hL]; exact ndL_get hlt
      have hio : ndOk (ndOf ((elm 7 xs acc.length).map (cv H))) = true := (List.all_eq_true.1 hok) _ (List.mem_of_getElem? hin)
      have hdr : l.drop acc.length = ndOf ((elm 7 xs acc.length).map (cv H)) :: l.drop (acc.length + 1) := by
        have hlt2 : acc.length < l.length := by omega
        rw [List.drop_eq_getElem_cons hlt2]
        rw [List.getElem?_eq_getElem hlt2] at hin
        rw [Option.some.inj hin]
      have hlen := ext_len he
      have g1 := rd_ext hrd he
      have l1 : ld Try.prog 77 (o + acc.length * 7) cs = some (.agg (elm 7 xs acc.length).toArray) := by rw [ld77]; exact (hcell _ hlt).1
      obtain ⟨ek, ea, eb, es, eo, ew, y, ex, ky, ei⟩ := all2_expr x1
      rw [ei] at hdr hio
      generalize elm 7 xs acc.length = x at *
      subst ex
      obtain ⟨a5, c5, e5⟩ := ky.1.slice
      generalize rowI H y = m at *
      subst e5
      have hk := ndOk_k hio
      simp only at hk
      by_cases hk2 : ek = 1 ∨ ek = 2
      · have hn : nxt acc ⟨ek, ea, eb, es, eo, ew, m⟩ = some 1 := by unfold nxt; rw [if_pos (by simp only; omega)]
        have d1 : decide (ek ≥ 3) = false := decide_eq_false (by omega)
        have d2 : (ek == 5) = false := beq_eq_false_iff_ne.2 (by omega)
        simp -implicitDefEqProofs only [kz, kk0, kk1, kk2, kk3, ↓two_true, ↓two_false, oS_some, oM_some, mkv, aggAt, Nat.reduceLeDiff, Nat.reduceSub, Nat.reduceMul, implies_true, Nat.reduceEqDiff, reduceIte, Nat.reduceAdd, Nat.reduceBEq, reduceCtorEq, al77, ap58_58, bs58_1, fa45_0, fa77_0, fa77_1, fa77_2, ix43, ix58, ld3, ld43, ld77, ln43, st77, h11, h12, h13, h4, Int.toNat_natCast, Nat.mul_one, g1, l1, Int.reduceBEq, d1, d2]
        refine ⟨by omega, ?_⟩
        refine oA_own1 ho.mono (by omega) fun a6 c6 H5 o6 x7 => ?_
        have hff : ∀ b, blkOf (.slice a6 (acc.length + 1) c6) = some b → H.length ≤ b := fun b hb => by
          rcases x7.new b hb with h | h
          · exact hf b h
          · have := ext_len he; simp at h; omega
        have he5 := x7.ext (app_ext he) hf
        simp -implicitDefEqProofs only [kz, kk0, kk1, kk2, kk3, ↓two_true, ↓two_false, oS_some, oM_some, mkv, aggAt, Nat.reduceLeDiff, Nat.reduceSub, Nat.reduceMul, implies_true, Nat.reduceEqDiff, reduceIte, Nat.reduceAdd, Nat.reduceBEq, reduceCtorEq, al77, ap58_58, bs58_1, fa45_0, fa77_0, fa77_1, fa77_2, ix43, ix58, ld3, ld43, ld77, ln43, st77, h11, h12, h13, h4, IntWalk.i64_in ((acc.length : Int) + 1) (by omega)]
        refine ⟨(a6, c6, acc ++ [1]), ?_⟩
        simp only [List.length_append, List.length_cons, List.length_nil, Nat.zero_add]
        exact ⟨by omega, by simp, trivial, by omega, o6, hff, he5, by rw [hown, hdr, ownG, hn], hb.nxt hn⟩
      · have d1 : decide (ek ≥ 3) = true := decide_eq_true (by omega)
        have wi : IntKind.i64.wrap ((acc.length : Int) - 1) = (acc.length : Int) - 1 := IntWalk.i64_in _ (by omega)
        by_cases hF : (ek = 5 ∧ ea ≠ (acc.length : Int) - 1) ∨ (ek ≠ 5 ∧ eb ≠ (acc.length : Int) - 1) ∨ acc.length = 0
        · have hn : nxt acc ⟨ek, ea, eb, es, eo, ew, m⟩ = none := by unfold nxt; rw [if_neg (by simp only; omega), if_pos hF]
          have hN : ownG [] l = none := by rw [hown, hdr, ownG, hn]
          by_cases h5 : ek = 5
          · have d2 : (ek == 5) = true := by simp [h5]
            simp -implicitDefEqProofs only [kz, kk0, kk1, kk2, kk3, ↓two_true, ↓two_false, oS_some, oM_some, mkv, aggAt, Nat.reduceLeDiff, Nat.reduceSub, Nat.reduceMul, implies_true, Nat.reduceEqDiff, reduceIte, Nat.reduceAdd, Nat.reduceBEq, reduceCtorEq, al77, ap58_58, bs58_1, fa45_0, fa77_0, fa77_1, fa77_2, ix43, ix58, ld3, ld43, ld77, ln43, st77, h11, h12, h13, h4, Int.toNat_natCast, Nat.mul_one, g1, l1, Int.reduceBEq, d1, d2, wi]
            exact ⟨by omega, two_intro (fun _ => ⟨⟨_, _, rfl, .inr ⟨rfl, hN⟩⟩, app_ext he⟩) (fun q1 => two_intro (fun _ => ⟨⟨_, _, rfl, .inr ⟨rfl, hN⟩⟩, app_ext he⟩) (fun q2 => absurd hF (by simp only [bne_eq_false_iff_eq, beq_eq_false_iff_ne, ne_eq] at q1 q2; omega)))⟩
          · have d2 : (ek == 5) = false := by simp [h5]
            simp -implicitDefEqProofs only [kz, kk0, kk1, kk2, kk3, ↓two_true, ↓two_false, oS_some, oM_some, mkv, aggAt, Nat.reduceLeDiff, Nat.reduceSub, Nat.reduceMul, implies_true, Nat.reduceEqDiff, reduceIte, Nat.reduceAdd, Nat.reduceBEq, reduceCtorEq, al77, ap58_58, bs58_1, fa45_0, fa77_0, fa77_1, fa77_2, ix43, ix58, ld3, ld43, ld77, ln43, st77, h11, h12, h13, h4, Int.toNat_natCast, Nat.mul_one, g1, l1, Int.reduceBEq, d1, d2, wi]
            exact ⟨by omega, two_intro (fun _ => ⟨⟨_, _, rfl, .inr ⟨rfl, hN⟩⟩, app_ext he⟩) (fun q1 => two_intro (fun _ => ⟨⟨_, _, rfl, .inr ⟨rfl, hN⟩⟩, app_ext he⟩) (fun q2 => absurd hF (by simp only [bne_eq_false_iff_eq, beq_eq_false_iff_ne, ne_eq] at q1 q2; omega)))⟩
        · have hL0 : 0 < acc.length := by omega
          obtain ⟨b2, o2, cs2, e2, hb2, hle2, hcs2⟩ := ho.blk hL0
          simp only [Value.slice.injEq] at e2
          obtain ⟨rfl, _, rfl⟩ := e2
          have e1 : (acc.length : Int) - 1 = ((acc.length - 1 : Nat) : Int) := by omega
          have gc : ∀ j : Nat, j < acc.length → cs2[o2 + j]? = some (.int .i64 (gI acc j)) := fun j hj => hcs2 j _ (gI_get hj)
          have gb : ∀ L, rd (H1 ++ L) b2 = some cs2 := fun L => rd_own (gtl hb2)
          have wlen : IntKind.i64.wrap ((acc.length : Int) - 1) = ((acc.length - 1 : Nat) : Int) := by rw [wi, e1]
          have d0 : ((acc.length : Int) == 0) = false := beq_eq_false_iff_ne.2 (by omega)
          have gg := hb.g (i := acc.length - 1) (by omega)
          have w1 : IntKind.i64.wrap (1 + gI acc ((acc.length - 1 : Nat) : Int)) = 1 + gI acc ((acc.length - 1 : Nat) : Int) := IntWalk.i64_in _ (by omega)
          by_cases h5 : ek = 5
          · have d2 : (ek == 5) = true := by simp [h5]
            have ha : ea = ((acc.length - 1 : Nat) : Int) := by omega
            subst ha
            have w2 : IntKind.i64.wrap (((acc.length - 1 : Nat) : Int) - gI acc ((acc.length - 1 : Nat) : Int)) = ((acc.length - 1 : Nat) : Int) - gI acc ((acc.length - 1 : Nat) : Int) := IntWalk.i64_in _ (by omega)
            by_cases hS : ((acc.length - 1 : Nat) : Int) - gI acc ((acc.length - 1 : Nat) : Int) < 0 ∨ eb ≠ ((acc.length - 1 : Nat) : Int) - gI acc ((acc.length - 1 : Nat) : Int)
            · have hn : nxt acc ⟨ek, ((acc.length - 1 : Nat) : Int), eb, es, eo, ew, m⟩ = none := by unfold nxt; rw [if_neg (by simp only; omega), if_neg hF, if_neg (by simp only; omega), if_pos (by simp only; rw [e1]; exact hS)]
              have hN : ownG [] l = none := by rw [hown, hdr, ownG, hn]
              simp -implicitDefEqProofs only [kz, kk0, kk1, kk2, kk3, ↓two_true, ↓two_false, oS_some, oM_some, mkv, aggAt, Nat.reduceLeDiff, Nat.reduceSub, Nat.reduceMul, implies_true, Nat.reduceEqDiff, reduceIte, Nat.reduceAdd, Nat.reduceBEq, reduceCtorEq, al77, ap58_58, bs58_1, fa45_0, fa77_0, fa77_1, fa77_2, ix43, ix58, ld3, ld43, ld77, ln43, st77, h11, h12, h13, h4, Int.toNat_natCast, Nat.mul_one, g1, l1, Int.reduceBEq, d1, d2, wlen, bne_self_eq_false, d0, gb, gc _ (show acc.length - 1 < acc.length by omega), w1, w2]
              exact ⟨by omega, by omega, by omega, two_intro (fun _ => ⟨⟨_, _, rfl, .inr ⟨rfl, hN⟩⟩, app_ext he⟩) (fun q1 => two_intro (fun _ => ⟨⟨_, _, rfl, .inr ⟨rfl, hN⟩⟩, app_ext he⟩) (fun q2 => absurd hS (by simp only [bne_eq_false_iff_eq, decide_eq_false_iff_not, ne_eq] at q1 q2; omega)))⟩
            · obtain ⟨j, hj⟩ : ∃ j : Nat, eb = j := ⟨eb.toNat, by omega⟩
              have hj2 : ((acc.length - 1 : Nat) : Int) - gI acc ((acc.length - 1 : Nat) : Int) = j := by omega
              subst hj
              have hjl : j < acc.length := by omega
              have g2 := hb.g hjl
              have d3 : decide ((j : Int) < 0) = false := decide_eq_false (by omega)
              have wj : IntKind.i64.wrap (j : Int) = j := IntWalk.i64_in _ (by omega)
              have w3 : IntKind.i64.wrap (1 + gI acc ((acc.length - 1 : Nat) : Int) + gI acc (j : Int)) = 1 + gI acc ((acc.length - 1 : Nat) : Int) + gI acc (j : Int) := IntWalk.i64_in _ (by omega)
              have hn : nxt acc ⟨ek, ((acc.length - 1 : Nat) : Int), j, es, eo, ew, m⟩ = some (1 + gI acc ((acc.length - 1 : Nat) : Int) + gI acc (j : Int)) := by unfold nxt; rw [if_neg (by simp only; omega), if_neg hF, if_neg (by simp only; omega), if_neg (by simp only; rw [e1]; exact hS), e1, hj2]
              simp -implicitDefEqProofs only [kz, kk0, kk1, kk2, kk3, ↓two_true, ↓two_false, oS_some, oM_some, mkv, aggAt, Nat.reduceLeDiff, Nat.reduceSub, Nat.reduceMul, implies_true, Nat.reduceEqDiff, reduceIte, Nat.reduceAdd, Nat.reduceBEq, reduceCtorEq, al77, ap58_58, bs58_1, fa45_0, fa77_0, fa77_1, fa77_2, ix43, ix58, ld3, ld43, ld77, ln43, st77, h11, h12, h13, h4, Int.toNat_natCast, Nat.mul_one, g1, l1, Int.reduceBEq, d1, d2, wlen, bne_self_eq_false, d0, gb, gc _ (show acc.length - 1 < acc.length by omega), gc _ hjl, w1, w2, hj2, d3, wj, w3]
              refine ⟨by omega, by omega, by omega, by omega, ?_⟩
              refine oA_own1 ho.mono (by omega) fun a6 c6 H5 o6 x7 => ?_
              have hff : ∀ b, blkOf (.slice a6 (acc.length + 1) c6) = some b → H.length ≤ b := fun b hb => by
                rcases x7.new b hb with h | h
                · exact hf b h
                · have := ext_len he; simp at h; omega
              have he5 := x7.ext (app_ext he) hf
              simp -implicitDefEqProofs only [kz, kk0, kk1, kk2, kk3, ↓two_true, ↓two_false, oS_some, oM_some, mkv, aggAt, Nat.reduceLeDiff, Nat.reduceSub, Nat.reduceMul, implies_true, Nat.reduceEqDiff, reduceIte, Nat.reduceAdd, Nat.reduceBEq, reduceCtorEq, al77, ap58_58, bs58_1, fa45_0, fa77_0, fa77_1, fa77_2, ix43, ix58, ld3, ld43, ld77, ln43, st77, h11, h12, h13, h4, IntWalk.i64_in ((acc.length : Int) + 1) (by omega)]
              refine ⟨(a6, c6, acc ++ [1 + gI acc ((acc.length - 1 : Nat) : Int) + gI acc (j : Int)]), ?_⟩
              simp only [List.length_append, List.length_cons, List.length_nil, Nat.zero_add]
              exact ⟨by omega, by simp, trivial, by omega, o6, hff, he5, by rw [hown, hdr, ownG, hn], hb.nxt hn⟩
          · have d2 : (ek == 5) = false := by simp [h5]
            have ha : eb = ((acc.length - 1 : Nat) : Int) := by omega
            subst ha
            have hn : nxt acc ⟨ek, ea, ((acc.length - 1 : Nat) : Int), es, eo, ew, m⟩ = some (1 + gI acc ((acc.length - 1 : Nat) : Int)) := by unfold nxt; rw [if_neg (by simp only; omega), if_neg hF, if_pos (by simp only; omega), e1]
            simp -implicitDefEqProofs only [kz, kk0, kk1, kk2, kk3, ↓two_true, ↓two_false, oS_some, oM_some, mkv, aggAt, Nat.reduceLeDiff, Nat.reduceSub, Nat.reduceMul, implies_true, Nat.reduceEqDiff, reduceIte, Nat.reduceAdd, Nat.reduceBEq, reduceCtorEq, al77, ap58_58, bs58_1, fa45_0, fa77_0, fa77_1, fa77_2, ix43, ix58, ld3, ld43, ld77, ln43, st77, h11, h12, h13, h4, Int.toNat_natCast, Nat.mul_one, g1, l1, Int.reduceBEq, d1, d2, wlen, bne_self_eq_false, d0, gb, gc _ (show acc.length - 1 < acc.length by omega), w1]
            refine ⟨by omega, by omega, ?_⟩
            refine oA_own1 ho.mono (by omega) fun a6 c6 H5 o6 x7 => ?_
            have hff : ∀ b, blkOf (.slice a6 (acc.length + 1) c6) = some b → H.length ≤ b := fun b hb => by
              rcases x7.new b hb with h | h
              · exact hf b h
              · have := ext_len he; simp at h; omega
            have he5 := x7.ext (app_ext he) hf
            simp -implicitDefEqProofs only [kz, kk0, kk1, kk2, kk3, ↓two_true, ↓two_false, oS_some, oM_some, mkv, aggAt, Nat.reduceLeDiff, Nat.reduceSub, Nat.reduceMul, implies_true, Nat.reduceEqDiff, reduceIte, Nat.reduceAdd, Nat.reduceBEq, reduceCtorEq, al77, ap58_58, bs58_1, fa45_0, fa77_0, fa77_1, fa77_2, ix43, ix58, ld3, ld43, ld77, ln43, st77, h11, h12, h13, h4, IntWalk.i64_in ((acc.length : Int) + 1) (by omega)]
            refine ⟨(a6, c6, acc ++ [1 + gI acc ((acc.length - 1 : Nat) : Int)]), ?_⟩
            simp only [List.length_append, List.length_cons, List.length_nil, Nat.zero_add]
            exact ⟨by omega, by simp, trivial, by omega, o6, hff, he5, by rw [hown, hdr, ownG, hn], hb.nxt hn⟩
    · have hil : acc.length = n := by have : ¬ acc.length < n := by simpa using hc'
                                      omega
      refine ⟨⟨_, true, rfl, .inl ⟨rfl, acc, ?_, hil, hb, ho⟩⟩, he⟩
      rw [hown, List.drop_of_length_le (by omega), ownG]
theorem gI_end {w : List Int} {n : Nat} (h : w.length = n) (hn : 0 < n) : w[n - 1]? = some (gI w ((n : Int) - 1)) := by
  have := gI_get (l := w) (i := n - 1) (by omega)
  rw [this, show ((n : Int) - 1) = ((n - 1 : Nat) : Int) by omega]
theorem trOk_eq {l : List Nd} {n : Nat} (h : l.length = n) : trOk l = (inB n 1 60 && (l.all ndOk && (match ownG [] l with | some w => gI w ((n : Int) - 1) == n | none => false))) := by
  subst h; rfl

set_option maxHeartbeats 4000000 in
theorem implTreeOk_ok {H : AH} {v : Value} {n : Nat} {xs : List Value} (hv : FRow H v kExpr n xs) (hl : n ≤ 1048576) :
    CallsA Try.prog 30 #[.agg #[v]] H fun r H' => r = .bool (trOk (ndL (cvs H xs) n)) ∧ ∃ K, H' = H ++ K := by
  obtain ⟨a, c, rfl, gv⟩ := hv.opn 7 rfl
  have hll : (ndL (cvs H xs) n).length = n := ndL_len
  rw [trOk_eq hll]
  have hv0 := hv.mono (L := [⟨[.slice a n c], .own⟩])
  have ec := fun Φ => (containsFuncExpr_ok (g := 58) (p := fun V => !ndOk (ndOf V)) hv0 (by omega) (fun L x hx => treeOk1_el hx)).eqV (Φ := Φ)
  rw [hv.vals, any_nd] at ec
  refine w30 ?_
  unfold k30
  simp -implicitDefEqProofs only [kz, kk0, kk1, kk2, kk3, ↓two_true, ↓two_false, oS_some, oM_some, mkv, aggAt, Nat.reduceLeDiff, Nat.reduceSub, Nat.reduceMul, implies_true, Nat.reduceEqDiff, reduceIte, Nat.reduceAdd, Nat.reduceBEq, reduceCtorEq, fa45_0, ix58, ld3, ld43, ld45, ln43, within_eq, ec]
  refine two_intro (fun h1 => ?_) (fun h1 => ?_)
  · rw [show inB n 1 60 = false by simpa using h1]
    exact ⟨rfl, _, rfl⟩
  · have hb : inB n 1 60 = true := by simpa using h1
    have hb2 : 1 ≤ n ∧ n ≤ 60 := by simp [inB] at hb; omega
    rw [hb]
    refine two_intro (fun h2 => ?_) (fun h2 => ?_)
    · have h3 : (ndL (cvs H xs) n).all ndOk = false := by simpa using h2
      rw [h3]
      exact ⟨rfl, _, rfl⟩
    · have h3 : (ndL (cvs H xs) n).all ndOk = true := by simpa using h2
      rw [h3]
      generalize hJ : jk Try.prog 57 #[.slice a n c, .func (.func 58) #[] #[]] (H ++ [⟨[.slice a n c], .own⟩]) = J
      have hd := owned_ok (hv.mono (L := ⟨[.slice a n c], .own⟩ :: J)) hb2.2 (by rw [hv.vals]; exact h3)
      rw [hv.vals] at hd
      refine hd.mono ?_
      rintro _ H2 ⟨⟨w, ok, rfl, hw⟩, hK⟩
      have hK2 := ext_trans ⟨_, rfl⟩ hK
      rcases hw with ⟨rfl, ow, e1, e2, e3, e4⟩ | ⟨rfl, e1⟩
      · obtain ⟨b2, o2, cs2, rfl, hb3, hle2, hcs2⟩ := e4.blk (by omega)
        have hg := hcs2 (n - 1) _ (gI_end e2 (by omega))
        have wl : IntKind.i64.wrap ((n : Int) - 1) = ((n - 1 : Nat) : Int) := by rw [IntWalk.i64_in _ (by omega)]; omega
        simp -implicitDefEqProofs only [kz, kk0, kk1, kk2, kk3, ↓two_true, ↓two_false, oS_some, oM_some, mkv, aggAt, Nat.reduceLeDiff, Nat.reduceSub, Nat.reduceMul, implies_true, Nat.reduceEqDiff, reduceIte, Nat.reduceAdd, Nat.reduceBEq, reduceCtorEq, fa45_0, ix58, ld3, ld43, ld45, ln43, wl, e2, Int.toNat_natCast, Nat.mul_one, rd_own hb3, hg, e1]
        exact ⟨by omega, by simp, hK2⟩
      · simp -implicitDefEqProofs only [kz, kk0, kk1, kk2, kk3, ↓two_true, ↓two_false, oS_some, oM_some, mkv, aggAt, Nat.reduceLeDiff, Nat.reduceSub, Nat.reduceMul, implies_true, Nat.reduceEqDiff, reduceIte, Nat.reduceAdd, Nat.reduceBEq, reduceCtorEq, fa45_0, ix58, ld3, ld43, ld45, ln43, e1]
        exact ⟨by simp, hK2⟩

set_option maxHeartbeats 4000000 in
theorem specTreeOk_ok {H : AH} {v : Value} {n : Nat} {xs : List Value} (hv : FRow H v kExpr n xs) (hl : n ≤ 1048576) :
    CallsA Try.prog 29 #[.agg #[v]] H fun r H' => r = .bool (trOk (ndL (cvs H xs) n)) ∧ ∃ K, H' = H ++ K := by
  obtain ⟨a, c, rfl, gv⟩ := hv.opn 7 rfl
  generalize hL : ndL (cvs H xs) n = l
  have hll : l.length = n := by rw [← hL, ndL_len]
  rw [trOk_eq hll]
  refine w29 ?_
  unfold k29
  simp -implicitDefEqProofs only [kz, kk0, kk1, kk2, kk3, ↓two_true, ↓two_false, oS_some, oM_some, mkv, aggAt, Nat.reduceLeDiff, Nat.reduceSub, Nat.reduceMul, implies_true, Nat.reduceEqDiff, reduceIte, Nat.reduceAdd, Nat.reduceBEq, reduceCtorEq, ap58_58, bs58_0, bs58_1, fa45_0, ix43, ix58, ld3, ld43, ld77, ln43, l1In_eq]
  refine two_intro (fun h1 => ?_) (fun h1 => ?_)
  · rw [show inB n 1 60 = false by simpa using h1]
    exact ⟨rfl, _, rfl⟩
  · have hb : inB n 1 60 = true := by simpa using h1
    have hb2 : 1 ≤ n ∧ n ≤ 60 := by simp [inB] at hb; omega
    rw [hb]
    refine rW_loop (σ := Option Addr × Nat × List Int) (fun (a', c', acc) tm H' => tm 1 = .pointer (some ⟨H.length, 0, none⟩) ∧ tm 3 = .int .i64 n ∧ tm 5 = .int .i64 acc.length ∧ tm 4 = .slice a' acc.length c' ∧ acc.length ≤ n ∧ OwnRow H' (.slice a' acc.length c') acc ∧ (∀ b, blkOf (.slice a' acc.length c') = some b → (H ++ [⟨[.slice a n c], .own⟩] : AH).length ≤ b) ∧ (∃ K, H' = (H ++ [⟨[.slice a n c], .own⟩]) ++ K) ∧ ownG [] l = ownG acc (l.drop acc.length) ∧ OwB acc ∧ ∀ x ∈ l.take acc.length, ndOk x = true) (fun s => n - s.2.2.length) (some ⟨H.length + 1, 0, none⟩, 1, []) ?_ ?_
    · simp -implicitDefEqProofs [kk0, kk1, kk2, kk3, rW_block, ↓two_true, ↓two_false, rW_cond, rO_guard, oS_some, oM_some, mkv, aggAt, Nat.reduceLeDiff, Nat.reduceSub, Nat.reduceMul, cond_true, cond_false, Option.bind_some, List.length_append, List.length_cons, List.length_nil, List.append_assoc, List.cons_append, List.nil_append, List.set_cons_zero, List.set_cons_succ, List.size_toArray, List.all_cons, List.all_nil, List.drop_zero, List.drop_succ_cons, List.take_succ_cons, List.take_zero, List.mem_cons, Prod.mk.injEq, List.not_mem_nil, implies_true, List.getElem?_toArray, List.getElem?_cons_zero, List.getElem?_cons_succ, List.getElem?_nil, Option.getD_some, Option.getD_none, Nat.reduceEqDiff, reduceIte, Nat.reduceAdd, List.map_toArray, List.map_cons, List.map_nil, Bool.false_eq_true, Nat.reduceBEq, Option.map_some, Option.map_none, reduceCtorEq, ap58_58, bs58_0, bs58_1, fa45_0, ix43, ix58, ld3, ld43, ld77, ln43, OwB.nil]
      exact ⟨.inr ⟨H.length + 1, 0, [], rfl, by simp, by simp, by simp [ints]⟩, fun b hb => by simp [blkOf] at hb; omega⟩
    · rintro ⟨a', c', acc⟩ tm H1 ⟨ht1, ht3, ht5, ht4, hi, ho, hf, he, hown, hob, hnd⟩
      have g0 : rd H1 H.length = some [.slice a n c] := rd_ext (rd_own (by rw [gt0]; rfl)) he
      have he1 : ∃ K, H1 = H ++ K := by obtain ⟨K, rfl⟩ := he; exact ⟨_, List.append_assoc ..⟩
      simp -implicitDefEqProofs only [kz, kk0, kk1, kk2, kk3, ↓two_true, ↓two_false, oS_some, oM_some, mkv, aggAt, Nat.reduceLeDiff, Nat.reduceSub, Nat.reduceMul, implies_true, Nat.reduceEqDiff, reduceIte, Nat.reduceAdd, Nat.reduceBEq, reduceCtorEq, ap58_58, bs58_0, bs58_1, fa45_0, ix43, ix58, ld3, ld43, ld77, ln43, ht1, ht3, ht5, ht4]
      refine two_intro (fun hc' => ?_) (fun hc' => ?_)
      · have hlt : acc.length < n := by simpa using hc'
        obtain ⟨b, o, cs, rfl, rfl, hrd, hle, hcell⟩ := gv (by omega)
        have x1 := hv.elemn 7 rfl hlt
        have hin : l[acc.length]? = some (ndOf ((elm 7 xs acc.length).map (cv H))) := by rw [← hL]; exact ndL_get hlt
        have hlt2 : acc.length < l.length := by omega
        have hing : l[acc.length] = ndOf ((elm 7 xs acc.length).map (cv H)) := by rw [List.getElem?_eq_getElem hlt2] at hin; exact Option.some.inj hin
        have hdr : l.drop acc.length = ndOf ((elm 7 xs acc.length).map (cv H)) :: l.drop (acc.length + 1) := by
          rw [List.drop_eq_getElem_cons hlt2, hing]
        obtain ⟨x2, x3⟩ := x1.ext he1
        have g1 := rd_ext hrd he1
        have l1 : ld Try.prog 77 (o + acc.length * 7) cs = some (.agg (elm 7 xs acc.length).toArray) := by rw [ld77]; exact (hcell _ hlt).1
        simp -implicitDefEqProofs only [kz, kk0, kk1, kk2, kk3, ↓two_true, ↓two_false, oS_some, oM_some, mkv, aggAt, Nat.reduceLeDiff, Nat.reduceSub, Nat.reduceMul, implies_true, Nat.reduceEqDiff, reduceIte, Nat.reduceAdd, Nat.reduceBEq, reduceCtorEq, ap58_58, bs58_0, bs58_1, fa45_0, ix43, ix58, ld3, ld43, ld77, ln43, ht1, ht3, ht5, ht4, Int.toNat_natCast, g0, g1, l1]
        refine ⟨by omega, (l9Node_el x2 ho.int hob (by omega)).mono ?_⟩
        rintro _ H2 ⟨⟨kk, ok, rfl, hk1, hk2⟩, hK2⟩
        rw [x3] at hk1 hk2
        have he2 := ext_trans he hK2
        have ho2 := ho.ext hK2
        cases ok with
        | false =>
          simp -implicitDefEqProofs only [kz, kk0, kk1, kk2, kk3, ↓two_true, ↓two_false, oS_some, oM_some, mkv, aggAt, Nat.reduceLeDiff, Nat.reduceSub, Nat.reduceMul, implies_true, Nat.reduceEqDiff, reduceIte, Nat.reduceAdd, Nat.reduceBEq, reduceCtorEq, ap58_58, bs58_0, bs58_1, fa45_0, ix43, ix58, ld3, ld43, ld77, ln43, ht1, ht3, ht5, ht4, Bool.not_true, Bool.not_false]
          refine ⟨?_, by obtain ⟨K, rfl⟩ := he2; exact ⟨_, List.append_assoc ..⟩⟩
          rcases hk2 rfl with h | h
          · have : l.all ndOk = false := by
              rw [Bool.eq_false_iff]
              intro ha
              rw [(List.all_eq_true.1 ha) _ (List.mem_of_getElem? hin)] at h
              cases h
            rw [this]; simp
          · have : ownG [] l = none := by rw [hown, hdr, ownG, h]
            rw [this]; simp
        | true =>
          obtain ⟨hk3, hk4⟩ := hk1 rfl
          simp -implicitDefEqProofs only [kz, kk0, kk1, kk2, kk3, ↓two_true, ↓two_false, oS_some, oM_some, mkv, aggAt, Nat.reduceLeDiff, Nat.reduceSub, Nat.reduceMul, implies_true, Nat.reduceEqDiff, reduceIte, Nat.reduceAdd, Nat.reduceBEq, reduceCtorEq, ap58_58, bs58_0, bs58_1, fa45_0, ix43, ix58, ld3, ld43, ld77, ln43, ht1, ht3, ht5, ht4, Bool.not_true, Bool.not_false]
          refine oA_own ho2.mono intRow1 (by simp; omega) fun a6 c6 H5 o6 x7 => ?_
          have hff : ∀ b, blkOf (.slice a6 (acc.length + [kk].length) c6) = some b → (H ++ [⟨[.slice (some ⟨b, o, none⟩) n 7], .own⟩] : AH).length ≤ b := fun b' hb' => by
            rcases x7.new b' hb' with h | h
            · have := hf b' h; simp at this ⊢; exact this
            · have := ext_len he2; simp at h this ⊢; omega
          have he5 := x7.ext (app_ext he2) hf
          simp -implicitDefEqProofs only [kz, kk0, kk1, kk2, kk3, ↓two_true, ↓two_false, oS_some, oM_some, mkv, aggAt, Nat.reduceLeDiff, Nat.reduceSub, Nat.reduceMul, implies_true, Nat.reduceEqDiff, reduceIte, Nat.reduceAdd, Nat.reduceBEq, reduceCtorEq, ap58_58, bs58_0, bs58_1, fa45_0, ix43, ix58, ld3, ld43, ld77, ln43, ht1, ht3, ht5, ht4, IntWalk.i64_in ((acc.length : Int) + 1) (by omega)]
          refine ⟨(a6, c6, acc ++ [kk]), ?_⟩
          simp only [List.length_append, List.length_cons, List.length_nil, Nat.zero_add] at o6 hff ⊢
          refine ⟨by omega, by simp, trivial, by omega, o6, hff, by obtain ⟨K, hK⟩ := he5; exact ⟨K, by rw [hK, List.append_assoc]; rfl⟩, by rw [hown, hdr, ownG, hk4], hob.nxt hk4, fun x hx => ?_⟩
          rw [List.take_succ_eq_append_getElem hlt2, hing] at hx
          rcases List.mem_append.1 hx with hx | hx
          · exact hnd x hx
          · rw [List.mem_singleton.1 hx]; exact hk3
      · have hil : acc.length = n := by have : ¬ acc.length < n := by simpa using hc'
                                        omega
        have hall : l.all ndOk = true := List.all_eq_true.2 fun x hx => hnd x (by rw [List.take_of_length_le (by omega)]; exact hx)
        have hN : ownG [] l = some acc := by rw [hown, List.drop_of_length_le (by omega), ownG]
        obtain ⟨b2, o2, cs2, e2, hb3, hle2, hcs2⟩ := ho.blk (by omega)
        simp only [Value.slice.injEq] at e2
        obtain ⟨rfl, _, rfl⟩ := e2
        have hg := hcs2 (n - 1) _ (gI_end hil (by omega))
        have wl : IntKind.i64.wrap ((n : Int) - 1) = ((n - 1 : Nat) : Int) := by rw [IntWalk.i64_in _ (by omega)]; omega
        simp -implicitDefEqProofs only [kz, kk0, kk1, kk2, kk3, ↓two_true, ↓two_false, oS_some, oM_some, mkv, aggAt, Nat.reduceLeDiff, Nat.reduceSub, Nat.reduceMul, implies_true, Nat.reduceEqDiff, reduceIte, Nat.reduceAdd, Nat.reduceBEq, reduceCtorEq, ap58_58, bs58_0, bs58_1, fa45_0, ix43, ix58, ld3, ld43, ld77, ln43, ht1, ht3, ht5, ht4, wl, hil, Int.toNat_natCast, Nat.mul_one, rd_own hb3, hg, hall, hN]
        exact ⟨by omega, by simp, by obtain ⟨K, rfl⟩ := he; exact ⟨_, List.append_assoc ..⟩⟩

theorem szTree_fl {H : AH} {v : Value} {n : Nat} {xs : List Value} {q : Int} (hv : FRow H v kExprw n xs) (hl : n ≤ 9223372036854775807) (hq : -1 ≤ q ∧ q ≤ 1048576) :
    CallsA Try.prog 21 #[.agg #[v], .int .i64 q] H fun r H' => r = .int .i64 (szI (n + rsum (cvs H xs)) q) ∧ ∃ K, H' = H ++ K := by
  obtain ⟨a, c, rfl, _⟩ := hv.op
  refine w21 ?_
  unfold k21
  simp -implicitDefEqProofs only [kz, kk0, kk1, kk2, kk3, ↓two_true, ↓two_false, oS_some, oM_some, mkv, aggAt, Nat.reduceLeDiff, Nat.reduceSub, Nat.reduceMul, implies_true, Nat.reduceEqDiff, reduceIte, Nat.reduceAdd, Nat.reduceBEq, reduceCtorEq, fa40_0, ld38]
  have hs := szExprS_fl (hv.mono (L := [⟨[.slice a n c], .own⟩])) hl hq
  rw [hv.vals] at hs
  refine hs.mono ?_
  rintro _ H1 ⟨rfl, hK⟩
  have hK1 : ∃ K, H1 = H ++ K := ext_trans ⟨_, rfl⟩ hK
  simp -implicitDefEqProofs only [kz, kk0, kk1, kk2, kk3, ↓two_true, ↓two_false, oS_some, oM_some, mkv, aggAt, Nat.reduceLeDiff, Nat.reduceSub, Nat.reduceMul, implies_true, Nat.reduceEqDiff, reduceIte, Nat.reduceAdd, Nat.reduceBEq, reduceCtorEq, fa40_0, ld38]
  refine two_intro (fun h => ?_) (fun h => by first | exact hK1 | exact ⟨rfl, hK1⟩)
  rw [szI_neg (by simpa using h)]
  first | exact hK1 | exact ⟨rfl, hK1⟩

theorem treeNew {H0 H H1 : AH} {v : Value} {n b : Nat} {ys : List Value} {V : List CV} {k : Blk} (h : NewL H H1 [.row v kExpr n ys] [V]) (h0 : H0.length ≤ H.length) (hb : b < H.length) : NewL H0 (H1.set b k) [.row v kExpr n ys] [V] := by
  have hne : ∀ g, bsL [.row v kExpr n ys] g → (H1.set b k)[g]? = H1[g]? := fun g hg => List.getElem?_set_ne (by have := h.fr g hg; omega)
  exact ⟨h.own.same hne, fun g hg => by have := h.fr g hg; omega, by rw [(h.own.rd.same hne).2]; exact h.vals⟩
set_option maxHeartbeats 4000000 in
theorem toTree_th {H : AH} {v : Value} {n : Nat} {xs : List Value} {V : List CV} (h : LI.ok H (.rd [.row v kExpr n xs] [V])) (hl : n ≤ 1048576) (hs : rsum V ≤ 1048576) :
    CallsA Try.prog 23 #[.agg #[v]] H fun r H' => (∃ a c ys, r = .agg #[.slice a n c] ∧ NewL H H' [.row (.slice a n c) kExpr n ys] [V]) ∧ ∃ K, H' = H ++ K := by
  obtain ⟨h1, _⟩ := LI.row h
  obtain ⟨a, c, rfl, _⟩ := h1.op
  clear h1
  refine w23 ?_
  unfold k23
  simp -implicitDefEqProofs only [kz, kk0, kk1, kk2, kk3, ↓two_true, ↓two_false, oS_some, oM_some, mkv, aggAt, Nat.reduceLeDiff, Nat.reduceSub, Nat.reduceMul, implies_true, Nat.reduceEqDiff, reduceIte, Nat.reduceAdd, Nat.reduceBEq, reduceCtorEq, al45, fa40_0, fa45_0, ld38, ld45, st43, st45]
  refine (toExprS_th (h.ext ⟨_, rfl⟩) hl hs).mono ?_
  rintro _ H1 ⟨⟨a', c', ys, rfl, nl⟩, hK⟩
  have b0 : H1[H.length + 1]? = some ⟨[.slice none 0 0], .own⟩ := by
    obtain ⟨K, rfl⟩ := hK
    exact gtl (by rw [gti]; rfl)
  have b1 : H1[H.length + 2]? = some ⟨[.slice none 0 0], .own⟩ := by
    obtain ⟨K, rfl⟩ := hK
    exact gtl (by rw [gti]; rfl)
  have b2 : (H1.set (H.length + 2) ⟨[.slice a' n c'], .own⟩)[H.length + 1]? = some ⟨[.slice none 0 0], .own⟩ := by rw [List.getElem?_set_ne (by omega)]; exact b0
  simp -implicitDefEqProofs only [kz, kk0, kk1, kk2, kk3, ↓two_true, ↓two_false, oS_some, oM_some, mkv, aggAt, Nat.reduceLeDiff, Nat.reduceSub, Nat.reduceMul, implies_true, Nat.reduceEqDiff, reduceIte, Nat.reduceAdd, Nat.reduceBEq, reduceCtorEq, al45, fa40_0, fa45_0, ld38, ld45, st43, st45, wrt_own b0, wrt_own b1, wrt_own b2, rd_own (set_at b0), rd_own (set_at b1), rd_own (set_at b2)]
  exact ⟨⟨a', c', ys, rfl, treeNew (treeNew nl (Nat.le_refl _) (by simp)) (by simp) (by simp)⟩, set_ext (set_ext (ext_trans ⟨_, rfl⟩ hK) (by omega)) (by omega)⟩

set_option maxHeartbeats 4000000 in
theorem eqTree_th {H : AH} {v w : Value} {n m : Nat} {xs ys : List Value} {V W : List CV} (h : LI.ok H (.rd [.row v kExpr n xs] [V])) (h' : LI.ok H (.rd [.row w kExpr m ys] [W])) (hl : n ≤ 1073741824) (hl2 : m ≤ 1073741824) :
    CallsA Try.prog 25 #[.agg #[v], .agg #[w]] H fun r H' => r = .bool (V == W) ∧ ∃ K, H' = H ++ K := by
  obtain ⟨a, c, rfl, _⟩ := (LI.row h).1.op
  obtain ⟨a', c', rfl, _⟩ := (LI.row h').1.op
  refine w25 ?_
  unfold k25
  simp -implicitDefEqProofs only [kz, kk0, kk1, kk2, kk3, ↓two_true, ↓two_false, oS_some, oM_some, mkv, aggAt, Nat.reduceLeDiff, Nat.reduceSub, Nat.reduceMul, implies_true, Nat.reduceEqDiff, reduceIte, Nat.reduceAdd, Nat.reduceBEq, reduceCtorEq, fa45_0, ld43]
  refine (eqExprS_th (h.ext ⟨_, rfl⟩) (h'.ext ⟨_, rfl⟩) hl hl2).mono ?_
  rintro _ H1 ⟨rfl, hK⟩
  have hK1 : ∃ K, H1 = H ++ K := ext_trans ⟨_, rfl⟩ hK
  simp -implicitDefEqProofs only [kz, kk0, kk1, kk2, kk3, ↓two_true, ↓two_false, oS_some, oM_some, mkv, aggAt, Nat.reduceLeDiff, Nat.reduceSub, Nat.reduceMul, implies_true, Nat.reduceEqDiff, reduceIte, Nat.reduceAdd, Nat.reduceBEq, reduceCtorEq, fa45_0, ld43]
  refine two_intro (fun h => ?_) (fun h => ?_)
  · rw [show (V == W) = false by simpa using h]; exact ⟨rfl, hK1⟩
  · rw [show (V == W) = true by simpa using h]; exact ⟨rfl, hK1⟩

theorem cofTree : Try.prog.cellsOf 40 = 1 := by kernel_rfl
theorem rpTree {H : AH} {v : Value} (h : RpV Try.prog H 40 v) : ∃ w, v = .agg #[w] ∧ RpV Try.prog H 38 w := by
  obtain ⟨k, vs, h, rfl⟩ := h
  obtain ⟨h1, k, h2⟩ := h.struct Try.underlying40
  rw [cofTree] at h1
  obtain ⟨x, rfl⟩ : ∃ x, vs = [x] := List.length_eq_one_iff.1 h1
  refine ⟨x, by simp [mkV, Try.underlying40], k, [x], ?_, by simp [mkV, Try.underlying38]⟩
  simp only [List.forall_mem_cons, List.not_mem_nil, false_implies, implies_true, and_true, List.drop_zero, show Try.prog.cellsOf 38 = 1 by kernel_rfl, List.take_succ_cons, List.take_zero] at h2
  exact h2

def cpI (x : Nd) : List CV := [.i x.k, .i (if x.k = 2 ∨ x.k = 3 then x.a else 0), .i x.s, .i x.o, .i x.w, .r x.nums]
def cpV (l : List Nd) : List CV := l.flatMap cpI
theorem cpV_snoc {l : List Nd} {x : Nd} : cpV (l ++ [x]) = cpV l ++ cpI x := by simp [cpV]
theorem cpV_cnt {l : List Nd} (h : l.all ndOk = true) : cntF (cpV l) ≤ 305 * l.length := by
  induction l with
  | nil => simp [cpV, cntF]
  | cons x t ih =>
    simp only [List.all_cons, Bool.and_eq_true] at h
    have h1 := ih h.2
    have e : cpV (x :: t) = cpI x ++ cpV t := rfl
    have hn : x.nums.length ≤ 300 := by
      have h0 := h.1
      unfold ndOk numsOk at h0
      simp only [Bool.or_eq_true, Bool.and_eq_true, beq_iff_eq, inB, decide_eq_true_eq] at h0
      omega
    rw [e]
    simp only [cntF, cpI, List.map_append, List.sum_append, List.map_cons, List.map_nil, List.sum_cons, List.sum_nil, List.length_cons, cnt1] at h1 ⊢
    omega
theorem oA_ins0 {H0 H1 H : AH} {v : Value} {n : Nat} {xs : List Value} {k a s o w : Int} {p : Value} {m : List Int} {Φ : Value → AH → Prop} (h : New H0 H1 v kInstr n xs) (he : ∃ K, H = H1 ++ K) (h0 : ∃ K, H1 = H0 ++ K) (hp : OwnRow H p m)
    (hpf : ∀ b, blkOf p = some b → H1.length ≤ b) (hm : m.length < 1073741825) (hl : n + 1 ≤ 1073741824)
    (hk : ∀ b H', New H0 H' (.slice (some ⟨b, 0, none⟩) (n + 1) 6) kInstr (n + 1) (xs ++ [.int .i64 k, .int .i64 a, .int .i64 s, .int .i64 o, .int .i64 w, p]) → (∃ K, H' = H0 ++ K) →
      cvs H' (xs ++ [.int .i64 k, .int .i64 a, .int .i64 s, .int .i64 o, .int .i64 w, p]) = cvs H1 xs ++ [.i k, .i a, .i s, .i o, .i w, .r m] → Φ (.slice (some ⟨b, 0, none⟩) (n + 1) 6) H') :
    oA (app 6 v (.slice (some ⟨H.length, 0, none⟩) 1 6) (H ++ [⟨[.int .i64 k, .int .i64 a, .int .i64 s, .int .i64 o, .int .i64 w, p], .own⟩])) Φ := by
  have r1 := hp.kok hm
  obtain ⟨a', c', ep⟩ := hp.isSlice
  subst ep
  refine oA_newn 6 rfl h he ⟨_, _, rfl, ⟨_, rfl⟩, _, _, rfl, ⟨_, rfl⟩, _, _, rfl, ⟨_, rfl⟩, _, _, rfl, ⟨_, rfl⟩, _, _, rfl, ⟨_, rfl⟩, _, _, rfl, r1.1, rfl⟩ ?_ ?_ ?_ (ext_len h0) hl fun b' H3 f3 x3 v3 => hk b' H3 f3 (x3.ext (ext_trans h0 he) h.blk) ?_
  · simp only [List.forall_mem_cons, List.not_mem_nil, false_implies, implies_true, and_true]
    exact ⟨.inl ⟨_, rfl⟩, .inl ⟨_, rfl⟩, .inl ⟨_, rfl⟩, .inl ⟨_, rfl⟩, .inl ⟨_, rfl⟩, r1.2.1⟩
  · simp only [List.forall_mem_cons, List.not_mem_nil, false_implies, implies_true, and_true]
    exact ⟨fun b hb => by simp [blkOf] at hb, fun b hb => by simp [blkOf] at hb, fun b hb => by simp [blkOf] at hb, fun b hb => by simp [blkOf] at hb, fun b hb => by simp [blkOf] at hb, hpf⟩
  · exact pw_get (by simp [Dj, blkOf])
  · rw [v3]
    simp only [List.map_cons, List.map_nil, r1.2.2, cv_int]
theorem oA_ins {H0 H1 H : AH} {B : Blk} {v : Value} {n : Nat} {xs : List Value} {k a s o w : Int} {p : Value} {m : List Int} {Φ : Value → AH → Prop} (h : New H0 H1 v kInstr n xs) (he : ∃ K, H = H1 ++ K) (h0 : ∃ K, H1 = H0 ++ K) (hp : OwnRow H p m)
    (hpf : ∀ b, blkOf p = some b → H1.length ≤ b) (hm : m.length < 1073741825) (hl : n + 1 ≤ 1073741824)
    (hk : ∀ b H', New H0 H' (.slice (some ⟨b, 0, none⟩) (n + 1) 6) kInstr (n + 1) (xs ++ [.int .i64 k, .int .i64 a, .int .i64 s, .int .i64 o, .int .i64 w, p]) → (∃ K, H' = H0 ++ K) →
      cvs H' (xs ++ [.int .i64 k, .int .i64 a, .int .i64 s, .int .i64 o, .int .i64 w, p]) = cvs H1 xs ++ [.i k, .i a, .i s, .i o, .i w, .r m] → Φ (.slice (some ⟨b, 0, none⟩) (n + 1) 6) H') :
    oA (app 6 v (.slice (some ⟨H.length + 1, 0, none⟩) 1 6) (H ++ [B, ⟨[.int .i64 k, .int .i64 a, .int .i64 s, .int .i64 o, .int .i64 w, p], .own⟩])) Φ := by
  have e : (H ++ [B, ⟨[.int .i64 k, .int .i64 a, .int .i64 s, .int .i64 o, .int .i64 w, p], .own⟩] : AH) = (H ++ [B]) ++ [⟨[.int .i64 k, .int .i64 a, .int .i64 s, .int .i64 o, .int .i64 w, p], .own⟩] := by simp
  have e2 : H.length + 1 = (H ++ [B]).length := by simp
  rw [e, e2]
  exact oA_ins0 h (app_ext he) h0 hp.mono hpf hm hl hk

set_option maxHeartbeats 4000000 in
theorem implCompile_ok {H : AH} {v : Value} {n : Nat} {xs : List Value} (hv : FRow H v kExpr n xs) (hl : n ≤ 1048576) :
    CallsA Try.prog 24 #[.agg #[v]] H fun r H' => (∃ a c m ys, r = .tuple #[.slice a m c, .bool (trOk (ndL (cvs H xs) n))] ∧ New H H' (.slice a m c) kInstr m ys ∧ cvs H' ys = (if trOk (ndL (cvs H xs) n) = true then cpV (ndL (cvs H xs) n) else []) ∧ m ≤ 60 ∧ (trOk (ndL (cvs H xs) n) = true → m = n)) ∧ ∃ K, H' = H ++ K := by
  have et := fun (L : AH) Φ => (implTreeOk_ok (hv.mono (L := L)) hl).eqV (Φ := Φ)
  simp only [hv.vals] at et
  obtain ⟨a, c, rfl, gv⟩ := hv.opn 7 rfl
  generalize hL : ndL (cvs H xs) n = l at *
  have hll : l.length = n := by rw [← hL, ndL_len]
  refine w24 ?_
  unfold k24
  simp -implicitDefEqProofs only [kz, kk0, kk1, kk2, kk3, ↓two_true, ↓two_false, oS_some, oM_some, mkv, aggAt, Nat.reduceLeDiff, Nat.reduceSub, Nat.reduceMul, implies_true, Nat.reduceEqDiff, reduceIte, Nat.reduceAdd, Nat.reduceBEq, reduceCtorEq, al63, al77, ap27_27, ap58_58, bd63, bs27_1, fa45_0, fa63_1, fa77_0, fa77_1, fa77_3, fa77_4, ix43, ld3, ld43, ld45, ld58, ld61, ld63, ld77, ln43, st3, st63, st77, et]
  refine two_intro (fun h1 => ?_) (fun h1 => ?_)
  · have ht : trOk l = false := by simpa using h1
    rw [ht]
    exact ⟨⟨none, 0, 0, [], rfl, New.nil, by simp [cvs], by omega, fun h => by cases h⟩, _, rfl⟩
  · have ht : trOk l = true := by simpa using h1
    rw [ht]
    have ht' := ht
    rw [trOk_eq hll] at ht'
    simp only [Bool.and_eq_true] at ht'
    have hb2 : 1 ≤ n ∧ n ≤ 60 := by have := ht'.1; simp [inB] at this; omega
    have hok := ht'.2.1
    clear ht'
    generalize hJ : jk Try.prog 30 #[.agg #[.slice a n c]] (H ++ [⟨[.slice a n c], .own⟩]) = J
    refine rW_loop (σ := Nat × Option Addr × Nat × List Value) (fun (i, a', c', ys) tm H' => tm 12 = .slice a n c ∧ tm 13 = .int .i64 n ∧ tm 14 = .int .i64 i ∧ tm 4 = .slice a' i c' ∧ i ≤ n ∧ New H H' (.slice a' i c') kInstr i ys ∧ cvs H' ys = cpV (l.take i) ∧ ∃ K, H' = H ++ K) (fun s => n - s.1) (0, none, 0, []) ?_ ?_
    · simp -implicitDefEqProofs [kk0, kk1, kk2, kk3, rW_block, ↓two_true, ↓two_false, rW_cond, rO_guard, oS_some, oM_some, mkv, aggAt, Nat.reduceLeDiff, Nat.reduceSub, Nat.reduceMul, cond_true, cond_false, Option.bind_some, List.length_append, List.length_cons, List.length_nil, List.append_assoc, List.cons_append, List.nil_append, List.set_cons_zero, List.set_cons_succ, List.size_toArray, List.all_cons, List.all_nil, List.drop_zero, List.drop_succ_cons, List.take_succ_cons, List.take_zero, List.mem_cons, Prod.mk.injEq, List.not_mem_nil, implies_true, List.getElem?_toArray, List.getElem?_cons_zero, List.getElem?_cons_succ, List.getElem?_nil, Option.getD_some, Option.getD_none, Nat.reduceEqDiff, reduceIte, Nat.reduceAdd, List.map_toArray, List.map_cons, List.map_nil, Bool.false_eq_true, Nat.reduceBEq, Option.map_some, Option.map_none, reduceCtorEq, al63, al77, ap27_27, ap58_58, bd63, bs27_1, fa45_0, fa63_1, fa77_0, fa77_1, fa77_3, fa77_4, ix43, ld3, ld43, ld45, ld58, ld61, ld63, ld77, ln43, st3, st63, st77]
      exact ⟨New.nil, rfl⟩
    · rintro ⟨i, a', c', ys⟩ tm H1 ⟨h12, h13, h14, h4, hi, hn, hc, he⟩
      simp -implicitDefEqProofs only [kz, kk0, kk1, kk2, kk3, ↓two_true, ↓two_false, oS_some, oM_some, mkv, aggAt, Nat.reduceLeDiff, Nat.reduceSub, Nat.reduceMul, implies_true, Nat.reduceEqDiff, reduceIte, Nat.reduceAdd, Nat.reduceBEq, reduceCtorEq, al63, al77, ap27_27, ap58_58, bd63, bs27_1, fa45_0, fa63_1, fa77_0, fa77_1, fa77_3, fa77_4, ix43, ld3, ld43, ld45, ld58, ld61, ld63, ld77, ln43, st3, st63, st77, h12, h13, h14, h4]
      refine two_intro (fun hc' => ?_) (fun hc' => ?_)
      · have hlt : i < n := by simpa using hc'
        obtain ⟨b, o, cs, rfl, rfl, hrd, hle, hcell⟩ := gv (by omega)
        have x1 := hv.elemn 7 rfl hlt
        have hin : l[i]? = some (ndOf ((elm 7 xs i).map (cv H))) := by rw [← hL]; exact ndL_get hlt
        have hio : ndOk (ndOf ((elm 7 xs i).map (cv H))) = true := (List.all_eq_true.1 hok) _ (List.mem_of_getElem? hin)
        have hlt2 : i < l.length := by omega
        have hing : l[i] = ndOf ((elm 7 xs i).map (cv H)) := by rw [List.getElem?_eq_getElem hlt2] at hin; exact Option.some.inj hin
        have hlen := ext_len he
        have g1 := rd_ext hrd he
        have l1 : ld Try.prog 77 (o + i * 7) cs = some (.agg (elm 7 xs i).toArray) := by rw [ld77]; exact (hcell _ hlt).1
        obtain ⟨x2, x3⟩ := x1.ext he
        obtain ⟨ek, ea, eb, es, eo, ew, y, ex, ky, ei⟩ := all2_expr x2
        rw [← x3, ei] at hing hio
        generalize elm 7 xs i = x at *
        subst ex
        obtain ⟨a5, c5, e5⟩ := ky.1.slice
        have hr : IntRow H1 y (rowI H1 y) := ky.1
        have hrl := ky.2
        generalize rowI H1 y = m at *
        subst e5
        simp -implicitDefEqProofs only [kz, kk0, kk1, kk2, kk3, ↓two_true, ↓two_false, oS_some, oM_some, mkv, aggAt, Nat.reduceLeDiff, Nat.reduceSub, Nat.reduceMul, implies_true, Nat.reduceEqDiff, reduceIte, Nat.reduceAdd, Nat.reduceBEq, reduceCtorEq, al63, al77, ap27_27, ap58_58, bd63, bs27_1, fa45_0, fa63_1, fa77_0, fa77_1, fa77_3, fa77_4, ix43, ld3, ld43, ld45, ld58, ld61, ld63, ld77, ln43, st3, st63, st77, h12, h13, h14, h4, Int.toNat_natCast, Nat.mul_one, g1, l1]
        refine ⟨by omega, ?_⟩
        refine oA_own (.inl ⟨rfl, rfl⟩) hr.mono (by simp; omega) fun a6 c6 H2 o6 x7 => ?_
        simp only [List.length_nil, Nat.zero_add, List.nil_append] at o6 x7 ⊢
        obtain ⟨K2, hK2⟩ := x7.ext (H0 := H1) ⟨_, rfl⟩ (by simp [blkOf])
        have hb0 : H2[H1.length]? = some ⟨[.int .i64 ek, .int .i64 ea, .int .i64 eb, .int .i64 es, .int .i64 eo, .int .i64 ew, .slice a5 m.length c5], .own⟩ := by rw [x7.keep H1.length (by simp) (by simp [blkOf]), gt0]; rfl
        have hb1 : ∀ L, rd (H2 ++ L) H1.length = _ := fun L => rd_own (gtl hb0)
        have wi : IntKind.i64.wrap ((i : Int) + 1) = ((i + 1 : Nat) : Int) := by rw [IntWalk.i64_in _ (by omega)]; omega
        by_cases hk2 : ek = 2
        · subst hk2
          simp -implicitDefEqProofs only [kz, kk0, kk1, kk2, kk3, ↓two_true, ↓two_false, oS_some, oM_some, mkv, aggAt, Nat.reduceLeDiff, Nat.reduceSub, Nat.reduceMul, implies_true, Nat.reduceEqDiff, reduceIte, Nat.reduceAdd, Nat.reduceBEq, reduceCtorEq, al63, al77, ap27_27, ap58_58, bd63, bs27_1, fa45_0, fa63_1, fa77_0, fa77_1, fa77_3, fa77_4, ix43, ld3, ld43, ld45, ld58, ld61, ld63, ld77, ln43, st3, st63, st77, h12, h13, h14, h4, rd_own hb0, hb1, Int.reduceBEq]
          refine oA_ins hn ⟨K2, hK2⟩ he o6 (fun b hb => by rcases x7.new b hb with h | h; · simp [blkOf] at h
                                                           · simp at h; omega) hrl (by omega) fun b3 H3 f3 he3 v3 => ?_
          simp -implicitDefEqProofs only [kz, kk0, kk1, kk2, kk3, ↓two_true, ↓two_false, oS_some, oM_some, mkv, aggAt, Nat.reduceLeDiff, Nat.reduceSub, Nat.reduceMul, implies_true, Nat.reduceEqDiff, reduceIte, Nat.reduceAdd, Nat.reduceBEq, reduceCtorEq, al63, al77, ap27_27, ap58_58, bd63, bs27_1, fa45_0, fa63_1, fa77_0, fa77_1, fa77_3, fa77_4, ix43, ld3, ld43, ld45, ld58, ld61, ld63, ld77, ln43, st3, st63, st77, h12, h13, h14, h4, wi]
          refine ⟨(i + 1, some ⟨b3, 0, none⟩, 6, _), by simp only; omega, by simp, rfl, hlt, f3, ?_, he3⟩
          rw [v3, hc, List.take_succ_eq_append_getElem hlt2, hing, cpV_snoc]
          simp only [cpI]
          rw [if_pos (by simp)]
        · have e2 : (ek == 2) = false := beq_eq_false_iff_ne.2 hk2
          by_cases hk3 : ek = 3
          · subst hk3
            simp -implicitDefEqProofs only [kz, kk0, kk1, kk2, kk3, ↓two_true, ↓two_false, oS_some, oM_some, mkv, aggAt, Nat.reduceLeDiff, Nat.reduceSub, Nat.reduceMul, implies_true, Nat.reduceEqDiff, reduceIte, Nat.reduceAdd, Nat.reduceBEq, reduceCtorEq, al63, al77, ap27_27, ap58_58, bd63, bs27_1, fa45_0, fa63_1, fa77_0, fa77_1, fa77_3, fa77_4, ix43, ld3, ld43, ld45, ld58, ld61, ld63, ld77, ln43, st3, st63, st77, h12, h13, h14, h4, rd_own hb0, hb1, Int.reduceBEq]
            refine oA_ins hn ⟨K2, hK2⟩ he o6 (fun b hb => by rcases x7.new b hb with h | h; · simp [blkOf] at h
                                                             · simp at h; omega) hrl (by omega) fun b3 H3 f3 he3 v3 => ?_
            simp -implicitDefEqProofs only [kz, kk0, kk1, kk2, kk3, ↓two_true, ↓two_false, oS_some, oM_some, mkv, aggAt, Nat.reduceLeDiff, Nat.reduceSub, Nat.reduceMul, implies_true, Nat.reduceEqDiff, reduceIte, Nat.reduceAdd, Nat.reduceBEq, reduceCtorEq, al63, al77, ap27_27, ap58_58, bd63, bs27_1, fa45_0, fa63_1, fa77_0, fa77_1, fa77_3, fa77_4, ix43, ld3, ld43, ld45, ld58, ld61, ld63, ld77, ln43, st3, st63, st77, h12, h13, h14, h4, wi]
            refine ⟨(i + 1, some ⟨b3, 0, none⟩, 6, _), by simp only; omega, by simp, rfl, hlt, f3, ?_, he3⟩
            rw [v3, hc, List.take_succ_eq_append_getElem hlt2, hing, cpV_snoc]
            simp only [cpI]
            rw [if_pos (by simp)]
          · have e3 : (ek == 3) = false := beq_eq_false_iff_ne.2 hk3
            simp -implicitDefEqProofs only [kz, kk0, kk1, kk2, kk3, ↓two_true, ↓two_false, oS_some, oM_some, mkv, aggAt, Nat.reduceLeDiff, Nat.reduceSub, Nat.reduceMul, implies_true, Nat.reduceEqDiff, reduceIte, Nat.reduceAdd, Nat.reduceBEq, reduceCtorEq, al63, al77, ap27_27, ap58_58, bd63, bs27_1, fa45_0, fa63_1, fa77_0, fa77_1, fa77_3, fa77_4, ix43, ld3, ld43, ld45, ld58, ld61, ld63, ld77, ln43, st3, st63, st77, h12, h13, h14, h4, rd_own hb0, hb1, e2, e3]
            refine oA_ins hn ⟨K2, hK2⟩ he o6 (fun b hb => by rcases x7.new b hb with h | h; · simp [blkOf] at h
                                                             · simp at h; omega) hrl (by omega) fun b3 H3 f3 he3 v3 => ?_
            simp -implicitDefEqProofs only [kz, kk0, kk1, kk2, kk3, ↓two_true, ↓two_false, oS_some, oM_some, mkv, aggAt, Nat.reduceLeDiff, Nat.reduceSub, Nat.reduceMul, implies_true, Nat.reduceEqDiff, reduceIte, Nat.reduceAdd, Nat.reduceBEq, reduceCtorEq, al63, al77, ap27_27, ap58_58, bd63, bs27_1, fa45_0, fa63_1, fa77_0, fa77_1, fa77_3, fa77_4, ix43, ld3, ld43, ld45, ld58, ld61, ld63, ld77, ln43, st3, st63, st77, h12, h13, h14, h4, wi]
            refine ⟨(i + 1, some ⟨b3, 0, none⟩, 6, _), by simp only; omega, by simp, rfl, hlt, f3, ?_, he3⟩
            rw [v3, hc, List.take_succ_eq_append_getElem hlt2, hing, cpV_snoc]
            simp only [cpI]
            rw [if_neg (by omega)]
      · have hil : i = n := by have : ¬ i < n := by simpa using hc'
                               omega
        subst hil
        rw [List.take_of_length_le (by omega)] at hc
        exact ⟨⟨a', c', i, ys, rfl, hn, by simp [hc], by omega, by simp⟩, he⟩

theorem cp_right {k a b s o w : Int} {m : List Int} (h : ndOk ⟨k, a, b, s, o, w, m⟩ = true) :
    (k = 1 ∧ cpI ⟨k, a, b, s, o, w, m⟩ = [.i 1, .i 0, .i 0, .i 0, .i 0, .r m]) ∨ (k = 2 ∧ cpI ⟨k, a, b, s, o, w, m⟩ = [.i 2, .i a, .i 0, .i 0, .i 0, .r []]) ∨
    (k = 3 ∧ cpI ⟨k, a, b, s, o, w, m⟩ = [.i 3, .i a, .i 0, .i 0, .i 0, .r []]) ∨ (k = 4 ∧ cpI ⟨k, a, b, s, o, w, m⟩ = [.i 4, .i 0, .i s, .i o, .i w, .r []]) ∨
    (k = 5 ∧ cpI ⟨k, a, b, s, o, w, m⟩ = [.i 5, .i 0, .i s, .i o, .i w, .r []]) := by
  have hk := ndOk_k h
  unfold ndOk at h
  simp only [Bool.or_eq_true, Bool.and_eq_true, beq_iff_eq] at h hk
  rcases hk with rfl | rfl | rfl | rfl | rfl
  · left; simp at h; simp [cpI, h.2]
  · right; left; simp at h; simp [cpI, h.2]
  · right; right; left; simp at h; simp [cpI, h.2]
  · right; right; right; left; simp at h; simp [cpI, h.2]
  · right; right; right; right; simp at h; simp [cpI, h.2]
set_option maxHeartbeats 4000000 in
theorem specCompile_ok {H : AH} {v : Value} {n : Nat} {xs : List Value} (hv : FRow H v kExpr n xs) (hl : n ≤ 1048576) :
    CallsA Try.prog 22 #[.agg #[v]] H fun r H' => (∃ a c m ys, r = .tuple #[.slice a m c, .bool (trOk (ndL (cvs H xs) n))] ∧ New H H' (.slice a m c) kInstr m ys ∧ cvs H' ys = (if trOk (ndL (cvs H xs) n) = true then cpV (ndL (cvs H xs) n) else []) ∧ m ≤ 60 ∧ (trOk (ndL (cvs H xs) n) = true → m = n)) ∧ ∃ K, H' = H ++ K := by
  have et := fun (L : AH) Φ => (specTreeOk_ok (hv.mono (L := L)) hl).eqV (Φ := Φ)
  simp only [hv.vals] at et
  obtain ⟨a, c, rfl, gv⟩ := hv.opn 7 rfl
  generalize hL : ndL (cvs H xs) n = l at *
  have hll : l.length = n := by rw [← hL, ndL_len]
  refine w22 ?_
  unfold k22
  simp -implicitDefEqProofs only [kz, kk0, kk1, kk2, kk3, ↓two_true, ↓two_false, oS_some, oM_some, mkv, aggAt, Nat.reduceLeDiff, Nat.reduceSub, Nat.reduceMul, implies_true, Nat.reduceEqDiff, reduceIte, Nat.reduceAdd, Nat.reduceBEq, reduceCtorEq, al77, ap27_27, ap58_58, bd63, bs27_0, bs27_1, bs58_0, fa45_0, fa77_0, fa77_1, fa77_3, fa77_4, ix43, ld3, ld43, ld45, ld58, ld61, ld77, ln43, st77, et]
  refine two_intro (fun h1 => ?_) (fun h1 => ?_)
  · have ht : trOk l = false := by simpa using h1
    rw [ht]
    exact ⟨⟨_, _, 0, [], rfl, New.at0n (ks := kInstr) rfl (by rw [gti]; rfl) (by omega), by simp [cvs], by omega, fun h => by cases h⟩, _, rfl⟩
  · have ht : trOk l = true := by simpa using h1
    rw [ht]
    have ht' := ht
    rw [trOk_eq hll] at ht'
    simp only [Bool.and_eq_true] at ht'
    have hb2 : 1 ≤ n ∧ n ≤ 60 := by have := ht'.1; simp [inB] at this; omega
    have hok := ht'.2.1
    clear ht'
    generalize hJ : jk Try.prog 29 #[.agg #[.slice a n c]] (H ++ [⟨[.slice a n c], .own⟩, ⟨[], .own⟩]) = J
    refine rW_loop (σ := Nat × Option Addr × Nat × List Value) (fun (i, a', c', ys) tm H' => tm 1 = .pointer (some ⟨H.length, 0, none⟩) ∧ tm 5 = .int .i64 i ∧ tm 4 = .slice a' i c' ∧ i ≤ n ∧ New (H ++ [⟨[.slice a n c], .own⟩]) H' (.slice a' i c') kInstr i ys ∧ cvs H' ys = cpV (l.take i) ∧ ∃ K, H' = (H ++ [⟨[.slice a n c], .own⟩]) ++ K) (fun s => n - s.1) (0, some ⟨H.length + 1, 0, none⟩, 6, []) ?_ ?_
    · simp -implicitDefEqProofs [kk0, kk1, kk2, kk3, rW_block, ↓two_true, ↓two_false, rW_cond, rO_guard, oS_some, oM_some, mkv, aggAt, Nat.reduceLeDiff, Nat.reduceSub, Nat.reduceMul, cond_true, cond_false, Option.bind_some, List.length_append, List.length_cons, List.length_nil, List.append_assoc, List.cons_append, List.nil_append, List.set_cons_zero, List.set_cons_succ, List.size_toArray, List.all_cons, List.all_nil, List.drop_zero, List.drop_succ_cons, List.take_succ_cons, List.take_zero, List.mem_cons, Prod.mk.injEq, List.not_mem_nil, implies_true, List.getElem?_toArray, List.getElem?_cons_zero, List.getElem?_cons_succ, List.getElem?_nil, Option.getD_some, Option.getD_none, Nat.reduceEqDiff, reduceIte, Nat.reduceAdd, List.map_toArray, List.map_cons, List.map_nil, Bool.false_eq_true, Nat.reduceBEq, Option.map_some, Option.map_none, reduceCtorEq, al77, ap27_27, ap58_58, bd63, bs27_0, bs27_1, bs58_0, fa45_0, fa77_0, fa77_1, fa77_3, fa77_4, ix43, ld3, ld43, ld45, ld58, ld61, ld77, ln43, st77]
      exact ⟨New.at0n (ks := kInstr) rfl (by rw [gti]; rfl) (by simp), rfl⟩
    · rintro ⟨i, a', c', ys⟩ tm H1 ⟨ht1, h5, h4, hi, hn, hc, he0⟩
      have g0 : rd H1 H.length = some [.slice a n c] := rd_ext (rd_own (by rw [gt0]; rfl)) he0
      have he : ∃ K, H1 = H ++ K := by obtain ⟨K, rfl⟩ := he0; exact ⟨_, List.append_assoc ..⟩
      simp -implicitDefEqProofs only [kz, kk0, kk1, kk2, kk3, ↓two_true, ↓two_false, oS_some, oM_some, mkv, aggAt, Nat.reduceLeDiff, Nat.reduceSub, Nat.reduceMul, implies_true, Nat.reduceEqDiff, reduceIte, Nat.reduceAdd, Nat.reduceBEq, reduceCtorEq, al77, ap27_27, ap58_58, bd63, bs27_0, bs27_1, bs58_0, fa45_0, fa77_0, fa77_1, fa77_3, fa77_4, ix43, ld3, ld43, ld45, ld58, ld61, ld77, ln43, st77, ht1, h5, h4, g0]
      refine two_intro (fun hc' => ?_) (fun hc' => ?_)
      · have hlt : i < n := by simpa using hc'
        obtain ⟨b, o, cs, rfl, rfl, hrd, hle, hcell⟩ := gv (by omega)
        have x1 := hv.elemn 7 rfl hlt
        have hin : l[i]? = some (ndOf ((elm 7 xs i).map (cv H))) := by rw [← hL]; exact ndL_get hlt
        have hio : ndOk (ndOf ((elm 7 xs i).map (cv H))) = true := (List.all_eq_true.1 hok) _ (List.mem_of_getElem? hin)
        have hlt2 : i < l.length := by omega
        have hing : l[i] = ndOf ((elm 7 xs i).map (cv H)) := by rw [List.getElem?_eq_getElem hlt2] at hin; exact Option.some.inj hin
        have hlen := ext_len he
        have g1 := rd_ext hrd he
        have l1 : ld Try.prog 77 (o + i * 7) cs = some (.agg (elm 7 xs i).toArray) := by rw [ld77]; exact (hcell _ hlt).1
        obtain ⟨x2, x3⟩ := x1.ext he
        obtain ⟨ek, ea, eb, es, eo, ew, y, ex, ky, ei⟩ := all2_expr x2
        rw [← x3, ei] at hing hio
        generalize elm 7 xs i = x at *
        subst ex
        obtain ⟨a5, c5, e5⟩ := ky.1.slice
        have hr : IntRow H1 y (rowI H1 y) := ky.1
        have hrl := ky.2
        generalize rowI H1 y = m at *
        subst e5
        have wi : IntKind.i64.wrap ((i : Int) + 1) = ((i + 1 : Nat) : Int) := by rw [IntWalk.i64_in _ (by omega)]; omega
        rcases cp_right hio with ⟨rfl, hcp⟩ | ⟨rfl, hcp⟩ | ⟨rfl, hcp⟩ | ⟨rfl, hcp⟩ | ⟨rfl, hcp⟩
        · simp -implicitDefEqProofs only [kz, kk0, kk1, kk2, kk3, ↓two_true, ↓two_false, oS_some, oM_some, mkv, aggAt, Nat.reduceLeDiff, Nat.reduceSub, Nat.reduceMul, implies_true, Nat.reduceEqDiff, reduceIte, Nat.reduceAdd, Nat.reduceBEq, reduceCtorEq, al77, ap27_27, ap58_58, bd63, bs27_0, bs27_1, bs58_0, fa45_0, fa77_0, fa77_1, fa77_3, fa77_4, ix43, ld3, ld43, ld45, ld58, ld61, ld77, ln43, st77, ht1, h5, h4, g0, Int.toNat_natCast, Nat.mul_one, g1, l1, Int.reduceBEq]
          refine ⟨by omega, oA_own (l := []) (.inr ⟨_, 0, [], rfl, by rw [gti]; rfl, by simp, by simp [ints]⟩) hr.mono (by simp; omega) fun a6 c6 H2 o6 x7 => ?_⟩
          simp only [List.length_nil, Nat.zero_add, List.nil_append] at o6 x7 ⊢
          obtain ⟨K2, hK2⟩ := x7.ext (H0 := H1) ⟨_, rfl⟩ (fun b hb => by simp [blkOf] at hb; omega)
          simp -implicitDefEqProofs only [kz, kk0, kk1, kk2, kk3, ↓two_true, ↓two_false, oS_some, oM_some, mkv, aggAt, Nat.reduceLeDiff, Nat.reduceSub, Nat.reduceMul, implies_true, Nat.reduceEqDiff, reduceIte, Nat.reduceAdd, Nat.reduceBEq, reduceCtorEq, al77, ap27_27, ap58_58, bd63, bs27_0, bs27_1, bs58_0, fa45_0, fa77_0, fa77_1, fa77_3, fa77_4, ix43, ld3, ld43, ld45, ld58, ld61, ld77, ln43, st77, ht1, h5, h4]
          refine oA_ins0 hn ⟨K2, hK2⟩ he0 o6 (fun b hb => by rcases x7.new b hb with h | h <;> simp [blkOf] at h <;> omega) hrl (by omega) fun b3 H3 f3 he3 v3 => ?_
          simp -implicitDefEqProofs only [kz, kk0, kk1, kk2, kk3, ↓two_true, ↓two_false, oS_some, oM_some, mkv, aggAt, Nat.reduceLeDiff, Nat.reduceSub, Nat.reduceMul, implies_true, Nat.reduceEqDiff, reduceIte, Nat.reduceAdd, Nat.reduceBEq, reduceCtorEq, al77, ap27_27, ap58_58, bd63, bs27_0, bs27_1, bs58_0, fa45_0, fa77_0, fa77_1, fa77_3, fa77_4, ix43, ld3, ld43, ld45, ld58, ld61, ld77, ln43, st77, ht1, h5, h4, wi]
          refine ⟨(i + 1, some ⟨b3, 0, none⟩, 6, _), by simp only; omega, by simp, rfl, hlt, f3, ?_, by obtain ⟨K, hK⟩ := he3; exact ⟨K, by rw [hK]; simp⟩⟩
          rw [v3, hc, List.take_succ_eq_append_getElem hlt2, hing, cpV_snoc, hcp]
        · simp -implicitDefEqProofs only [kz, kk0, kk1, kk2, kk3, ↓two_true, ↓two_false, oS_some, oM_some, mkv, aggAt, Nat.reduceLeDiff, Nat.reduceSub, Nat.reduceMul, implies_true, Nat.reduceEqDiff, reduceIte, Nat.reduceAdd, Nat.reduceBEq, reduceCtorEq, al77, ap27_27, ap58_58, bd63, bs27_0, bs27_1, bs58_0, fa45_0, fa77_0, fa77_1, fa77_3, fa77_4, ix43, ld3, ld43, ld45, ld58, ld61, ld77, ln43, st77, ht1, h5, h4, g0, Int.toNat_natCast, Nat.mul_one, g1, l1, Int.reduceBEq]
          refine ⟨by omega, oA_ins hn ⟨[], (List.append_nil _).symm⟩ he0 (.inl ⟨rfl, rfl⟩) (fun b hb => by simp [blkOf] at hb) (by simp) (by omega) fun b3 H3 f3 he3 v3 => ?_⟩
          simp -implicitDefEqProofs only [kz, kk0, kk1, kk2, kk3, ↓two_true, ↓two_false, oS_some, oM_some, mkv, aggAt, Nat.reduceLeDiff, Nat.reduceSub, Nat.reduceMul, implies_true, Nat.reduceEqDiff, reduceIte, Nat.reduceAdd, Nat.reduceBEq, reduceCtorEq, al77, ap27_27, ap58_58, bd63, bs27_0, bs27_1, bs58_0, fa45_0, fa77_0, fa77_1, fa77_3, fa77_4, ix43, ld3, ld43, ld45, ld58, ld61, ld77, ln43, st77, ht1, h5, h4, wi]
          refine ⟨(i + 1, some ⟨b3, 0, none⟩, 6, _), by simp only; omega, by simp, rfl, hlt, f3, ?_, by obtain ⟨K, hK⟩ := he3; exact ⟨K, by rw [hK]; simp⟩⟩
          rw [v3, hc, List.take_succ_eq_append_getElem hlt2, hing, cpV_snoc, hcp]
        · simp -implicitDefEqProofs only [kz, kk0, kk1, kk2, kk3, ↓two_true, ↓two_false, oS_some, oM_some, mkv, aggAt, Nat.reduceLeDiff, Nat.reduceSub, Nat.reduceMul, implies_true, Nat.reduceEqDiff, reduceIte, Nat.reduceAdd, Nat.reduceBEq, reduceCtorEq, al77, ap27_27, ap58_58, bd63, bs27_0, bs27_1, bs58_0, fa45_0, fa77_0, fa77_1, fa77_3, fa77_4, ix43, ld3, ld43, ld45, ld58, ld61, ld77, ln43, st77, ht1, h5, h4, g0, Int.toNat_natCast, Nat.mul_one, g1, l1, Int.reduceBEq]
          refine ⟨by omega, oA_ins hn ⟨[], (List.append_nil _).symm⟩ he0 (.inl ⟨rfl, rfl⟩) (fun b hb => by simp [blkOf] at hb) (by simp) (by omega) fun b3 H3 f3 he3 v3 => ?_⟩
          simp -implicitDefEqProofs only [kz, kk0, kk1, kk2, kk3, ↓two_true, ↓two_false, oS_some, oM_some, mkv, aggAt, Nat.reduceLeDiff, Nat.reduceSub, Nat.reduceMul, implies_true, Nat.reduceEqDiff, reduceIte, Nat.reduceAdd, Nat.reduceBEq, reduceCtorEq, al77, ap27_27, ap58_58, bd63, bs27_0, bs27_1, bs58_0, fa45_0, fa77_0, fa77_1, fa77_3, fa77_4, ix43, ld3, ld43, ld45, ld58, ld61, ld77, ln43, st77, ht1, h5, h4, wi]
          refine ⟨(i + 1, some ⟨b3, 0, none⟩, 6, _), by simp only; omega, by simp, rfl, hlt, f3, ?_, by obtain ⟨K, hK⟩ := he3; exact ⟨K, by rw [hK]; simp⟩⟩
          rw [v3, hc, List.take_succ_eq_append_getElem hlt2, hing, cpV_snoc, hcp]
        · simp -implicitDefEqProofs only [kz, kk0, kk1, kk2, kk3, ↓two_true, ↓two_false, oS_some, oM_some, mkv, aggAt, Nat.reduceLeDiff, Nat.reduceSub, Nat.reduceMul, implies_true, Nat.reduceEqDiff, reduceIte, Nat.reduceAdd, Nat.reduceBEq, reduceCtorEq, al77, ap27_27, ap58_58, bd63, bs27_0, bs27_1, bs58_0, fa45_0, fa77_0, fa77_1, fa77_3, fa77_4, ix43, ld3, ld43, ld45, ld58, ld61, ld77, ln43, st77, ht1, h5, h4, g0, Int.toNat_natCast, Nat.mul_one, g1, l1, Int.reduceBEq]
          refine ⟨by omega, oA_ins hn ⟨[], (List.append_nil _).symm⟩ he0 (.inl ⟨rfl, rfl⟩) (fun b hb => by simp [blkOf] at hb) (by simp) (by omega) fun b3 H3 f3 he3 v3 => ?_⟩
          simp -implicitDefEqProofs only [kz, kk0, kk1, kk2, kk3, ↓two_true, ↓two_false, oS_some, oM_some, mkv, aggAt, Nat.reduceLeDiff, Nat.reduceSub, Nat.reduceMul, implies_true, Nat.reduceEqDiff, reduceIte, Nat.reduceAdd, Nat.reduceBEq, reduceCtorEq, al77, ap27_27, ap58_58, bd63, bs27_0, bs27_1, bs58_0, fa45_0, fa77_0, fa77_1, fa77_3, fa77_4, ix43, ld3, ld43, ld45, ld58, ld61, ld77, ln43, st77, ht1, h5, h4, wi]
          refine ⟨(i + 1, some ⟨b3, 0, none⟩, 6, _), by simp only; omega, by simp, rfl, hlt, f3, ?_, by obtain ⟨K, hK⟩ := he3; exact ⟨K, by rw [hK]; simp⟩⟩
          rw [v3, hc, List.take_succ_eq_append_getElem hlt2, hing, cpV_snoc, hcp]
        · simp -implicitDefEqProofs only [kz, kk0, kk1, kk2, kk3, ↓two_true, ↓two_false, oS_some, oM_some, mkv, aggAt, Nat.reduceLeDiff, Nat.reduceSub, Nat.reduceMul, implies_true, Nat.reduceEqDiff, reduceIte, Nat.reduceAdd, Nat.reduceBEq, reduceCtorEq, al77, ap27_27, ap58_58, bd63, bs27_0, bs27_1, bs58_0, fa45_0, fa77_0, fa77_1, fa77_3, fa77_4, ix43, ld3, ld43, ld45, ld58, ld61, ld77, ln43, st77, ht1, h5, h4, g0, Int.toNat_natCast, Nat.mul_one, g1, l1, Int.reduceBEq]
          refine ⟨by omega, oA_ins hn ⟨[], (List.append_nil _).symm⟩ he0 (.inl ⟨rfl, rfl⟩) (fun b hb => by simp [blkOf] at hb) (by simp) (by omega) fun b3 H3 f3 he3 v3 => ?_⟩
          simp -implicitDefEqProofs only [kz, kk0, kk1, kk2, kk3, ↓two_true, ↓two_false, oS_some, oM_some, mkv, aggAt, Nat.reduceLeDiff, Nat.reduceSub, Nat.reduceMul, implies_true, Nat.reduceEqDiff, reduceIte, Nat.reduceAdd, Nat.reduceBEq, reduceCtorEq, al77, ap27_27, ap58_58, bd63, bs27_0, bs27_1, bs58_0, fa45_0, fa77_0, fa77_1, fa77_3, fa77_4, ix43, ld3, ld43, ld45, ld58, ld61, ld77, ln43, st77, ht1, h5, h4, wi]
          refine ⟨(i + 1, some ⟨b3, 0, none⟩, 6, _), by simp only; omega, by simp, rfl, hlt, f3, ?_, by obtain ⟨K, hK⟩ := he3; exact ⟨K, by rw [hK]; simp⟩⟩
          rw [v3, hc, List.take_succ_eq_append_getElem hlt2, hing, cpV_snoc, hcp]
      · have hil : i = n := by have : ¬ i < n := by simpa using hc'
                               omega
        subst hil
        rw [List.take_of_length_le (by omega)] at hc
        exact ⟨⟨a', c', i, ys, rfl, ⟨hn.ot, fun b hb => by have := hn.fr b hb; simp at this; omega⟩, by simp [hc], by omega, by simp⟩, he⟩

theorem Marked.pre {H L H' : AH} {l l' : List Comp} {V : List (List CV)} {k : Int} (h0 : LI.ok H (.own l V)) (h : Marked (H ++ L) l k H' l') : Marked H l k H' l' := by
  have e := (h0.rd.ext ⟨L, rfl⟩).2
  have e0 := h0.2
  refine ⟨h.own, h.bs, by have := h.len; rw [List.length_append] at this; omega, fun b hb hn => ?_, by rw [h.vals, e, e0]⟩
  rw [h.frame b (by rw [List.length_append]; omega) hn, List.getElem?_append_left hb]
theorem markTree_u {H : AH} {v : Value} {n : Nat} {xs : List Value} {V : List CV} {k : Int} (h : LI.ok H (.own [.row v kExpr n xs] [V])) (hl : n ≤ 1073741824) (hk : 0 ≤ k ∧ k + cntF ([V] : List (List CV)).flatten < 4611686018427387904) :
    CallsA Try.prog 26 #[.agg #[v], .int .i64 k] H fun r H' => r = .int .i64 (k + cntF ([V] : List (List CV)).flatten) ∧ ∃ ys V', Marked H [.row v kExpr n xs] k H' [.row v kExpr n ys] ∧ LI.ok H' (.own [.row v kExpr n ys] [V']) ∧ ([V'] : List (List CV)).flatten = markF ([V] : List (List CV)).flatten k := by
  obtain ⟨a, c, rfl, _⟩ := (LI.row h.rd).1.op
  refine w26 ?_
  unfold k26
  simp -implicitDefEqProofs only [kz, kk0, kk1, kk2, kk3, ↓two_true, ↓two_false, oS_some, oM_some, mkv, aggAt, Nat.reduceLeDiff, Nat.reduceSub, Nat.reduceMul, implies_true, Nat.reduceEqDiff, reduceIte, Nat.reduceAdd, Nat.reduceBEq, reduceCtorEq, fa45_0, ld43]
  refine (markExprS_u (h.ext ⟨_, rfl⟩) hl hk).mono ?_
  rintro _ H1 ⟨rfl, ys, V', hm, fm, vm⟩
  simp -implicitDefEqProofs only [kz, kk0, kk1, kk2, kk3, ↓two_true, ↓two_false, oS_some, oM_some, mkv, aggAt, Nat.reduceLeDiff, Nat.reduceSub, Nat.reduceMul, implies_true, Nat.reduceEqDiff, reduceIte, Nat.reduceAdd, Nat.reduceBEq, reduceCtorEq, fa45_0, ld43]
  exact ⟨ys, V', hm.pre h, fm, vm⟩

def cpR (V : List CV) (n : Nat) : List CV := if trOk (ndL V n) = true then cpV (ndL V n) else []
theorem cpR_cnt {V : List CV} {n : Nat} : cntF (cpR V n) ≤ 18300 := by
  unfold cpR
  split
  · rename_i h
    rw [trOk_eq ndL_len] at h
    simp only [Bool.and_eq_true] at h
    have hb2 : 1 ≤ n ∧ n ≤ 60 := by have := h.1; simp [inB] at this; omega
    have := cpV_cnt h.2.1
    rw [ndL_len] at this
    omega
  · simp [cntF]

theorem implCompile_u {H : AH} {v : Value} {n : Nat} {xs : List Value} {V : List CV} (h : LI.ok H (.rd [.row v kExpr n xs] [V])) (hl : n ≤ 1048576) :
    CallsA Try.prog 24 #[.agg #[v]] H fun r H' => (∃ a c m ys, r = .tuple #[.slice a m c, .bool (trOk (ndL V n))] ∧ NewL H H' [.row (.slice a m c) kInstr m ys] [cpR V n] ∧ m ≤ 60) ∧ ∃ K, H' = H ++ K := by
  obtain ⟨h1, rfl⟩ := LI.row h
  refine (implCompile_ok h1 hl).mono ?_
  rintro _ H' ⟨⟨a, c, m, ys, rfl, hn, hv, hm, _⟩, hK⟩
  exact ⟨⟨a, c, m, ys, rfl, hn.newL hv, hm⟩, hK⟩

theorem specCompile_u {H : AH} {v : Value} {n : Nat} {xs : List Value} {V : List CV} (h : LI.ok H (.rd [.row v kExpr n xs] [V])) (hl : n ≤ 1048576) :
    CallsA Try.prog 22 #[.agg #[v]] H fun r H' => (∃ a c m ys, r = .tuple #[.slice a m c, .bool (trOk (ndL V n))] ∧ NewL H H' [.row (.slice a m c) kInstr m ys] [cpR V n] ∧ m ≤ 60) ∧ ∃ K, H' = H ++ K := by
  obtain ⟨h1, rfl⟩ := LI.row h
  refine (specCompile_ok h1 hl).mono ?_
  rintro _ H' ⟨⟨a, c, m, ys, rfl, hn, hv, hm, _⟩, hK⟩
  exact ⟨⟨a, c, m, ys, rfl, hn.newL hv, hm⟩, hK⟩

set_option maxHeartbeats 4000000 in
theorem law5 : LawA Try.prog 5 [40] := by
  intro H vs hro h
  obtain ⟨v, vs, rfl, h1, h2⟩ := h.cons
  obtain rfl := h2.nil
  obtain ⟨v, rfl, h3⟩ := rpTree h1
  obtain ⟨n, xs, fr, hn⟩ := rpRow (m := 5) (ks := kExprw) h3 Try.underlying38 (by kernel_rfl) (by kernel_rfl)
  obtain ⟨a0a, a0c, rfl, _⟩ := fr.op
  refine w5 ?_
  unfold k5
  simp -implicitDefEqProofs only [kz, kk0, kk1, kk2, kk3, ↓two_true, ↓two_false, oS_some, oM_some, mkv, aggAt, Nat.reduceLeDiff, Nat.reduceSub, Nat.reduceMul, implies_true, Nat.reduceEqDiff, reduceIte, Nat.reduceAdd, Nat.reduceBEq, reduceCtorEq, al45, ld40, ld45, st45, (bin_bool_eql ub4), (bin_bool_neq ub4)]
  have hs := szTree_fl (q := 1048576) (fr.mono (L := [⟨[.slice a0a n a0c], .own⟩])) hn (by decide)
  rw [fr.vals] at hs
  refine hs.mono ?_
  rintro _ H0 ⟨rfl, hK0⟩
  have b0 : ∀ {H' : AH}, (∃ K, H' = H0 ++ K) → rd H' H.length = some [.slice a0a n a0c] := fun {H'} hK => by
    refine rd_ext (rd_ext (rd_own (by rw [gt0]; rfl)) hK0) hK
  have hK0' : ∃ K, H0 = H ++ K := ext_trans ⟨_, rfl⟩ hK0
  simp -implicitDefEqProofs only [kz, kk0, kk1, kk2, kk3, ↓two_true, ↓two_false, oS_some, oM_some, mkv, aggAt, Nat.reduceLeDiff, Nat.reduceSub, Nat.reduceMul, implies_true, Nat.reduceEqDiff, reduceIte, Nat.reduceAdd, Nat.reduceBEq, reduceCtorEq, al45, ld40, ld45, st45, (bin_bool_eql ub4), (bin_bool_neq ub4)]
  refine two_intro (fun h => trivial) (fun h => ?_)
  obtain ⟨-, hsz⟩ := szI_pos (by simpa using h)
  have fr1 : FRow H (.slice a0a n a0c) kExpr n xs := fr.strong (by omega)
  have hn1 : n ≤ 1048576 := by omega
  have hs1 : rsum (cvs H xs) ≤ 1048576 := by omega
  have f_a0 : LI.ok H (.rd [.row (.slice a0a n a0c) kExpr n xs] [cvs H xs]) := ⟨fun c hc => by simp only [List.mem_singleton] at hc; subst hc; exact fr1, rfl⟩
  have f_a0 := f_a0.ext hK0'
  clear h hsz
  have h9 : (cvs H xs).length = n * 7 := by have := fr.len; simp [cvs]; exact this
  have hcn : cntF (cvs H xs) ≤ 8388608 := by have := cntF_le (l := cvs H xs); omega
  clear h9
  have r_a0 : LI.rg 0 H.length (.rd [.row (.slice a0a n a0c) kExpr n xs] [cvs H xs]) := fun b hb => ⟨Nat.zero_le _, (show LI.ok H (.rd [.row (.slice a0a n a0c) kExpr n xs] [cvs H xs]) from ⟨fun c hc => by simp only [List.mem_singleton] at hc; subst hc; exact fr1, rfl⟩).lt b hb⟩
  generalize hV : cvs H xs = V at *
  clear hV fr fr1
  simp -implicitDefEqProofs only [kz, kk0, kk1, kk2, kk3, ↓two_true, ↓two_false, oS_some, oM_some, mkv, aggAt, Nat.reduceLeDiff, Nat.reduceSub, Nat.reduceMul, implies_true, Nat.reduceEqDiff, reduceIte, Nat.reduceAdd, Nat.reduceBEq, reduceCtorEq, al45, ld40, ld45, st45, (bin_bool_eql ub4), (bin_bool_neq ub4), b0 ⟨[], (List.append_nil _).symm⟩]
  refine (toTree_th f_a0 hn1 hs1).mono ?_
  rintro _ H1 ⟨⟨t1a, t1c, t1ys, rfl, nl⟩, hK1⟩
  have LH1 := ext_len hK1
  have f_a0 := f_a0.ext hK1
  have E1 : ∃ K, H1 = H0 ++ K := hK1
  have f_t1 := nl.ok.1
  simp -implicitDefEqProofs only [kz, kk0, kk1, kk2, kk3, ↓two_true, ↓two_false, oS_some, oM_some, mkv, aggAt, Nat.reduceLeDiff, Nat.reduceSub, Nat.reduceMul, implies_true, Nat.reduceEqDiff, reduceIte, Nat.reduceAdd, Nat.reduceBEq, reduceCtorEq, al45, ld40, ld45, st45, (bin_bool_eql ub4), (bin_bool_neq ub4)]
  refine (specCompile_u f_t1.rd hn1).mono ?_
  rintro _ H2 ⟨⟨wa, wc, wm, wys, rfl, nl, wl⟩, hK2⟩
  have LH2 := ext_len hK2
  have f_a0 := f_a0.ext hK2
  have E2 := ext_trans E1 hK2
  have f_w := nl.ok.1
  have r_w := nl.ok.2
  clear f_t1
  simp -implicitDefEqProofs only [kz, kk0, kk1, kk2, kk3, ↓two_true, ↓two_false, oS_some, oM_some, mkv, aggAt, Nat.reduceLeDiff, Nat.reduceSub, Nat.reduceMul, implies_true, Nat.reduceEqDiff, reduceIte, Nat.reduceAdd, Nat.reduceBEq, reduceCtorEq, al45, ld40, ld45, st45, (bin_bool_eql ub4), (bin_bool_neq ub4), b0 E2]
  refine (toTree_th f_a0 hn1 hs1).mono ?_
  rintro _ H3 ⟨⟨xa, xc, xys, rfl, nl⟩, hK3⟩
  have LH3 := ext_len hK3
  have f_a0 := f_a0.ext hK3
  have f_w := f_w.ext hK3
  have E3 := ext_trans E2 hK3
  have f_x := nl.ok.1
  have r_x := nl.ok.2
  simp -implicitDefEqProofs only [kz, kk0, kk1, kk2, kk3, ↓two_true, ↓two_false, oS_some, oM_some, mkv, aggAt, Nat.reduceLeDiff, Nat.reduceSub, Nat.reduceMul, implies_true, Nat.reduceEqDiff, reduceIte, Nat.reduceAdd, Nat.reduceBEq, reduceCtorEq, al45, ld40, ld45, st45, (bin_bool_eql ub4), (bin_bool_neq ub4)]
  refine (implCompile_u (f_x.rd.ext ⟨_, rfl⟩) hn1).mono ?_
  rintro _ H4 ⟨⟨ga, gc, gm, gys, rfl, nl, gl⟩, hK4⟩
  have hK4a : ∃ K, H4 = H3 ++ K := ext_trans ⟨_, rfl⟩ hK4
  have LH4 := ext_len hK4
  have LH4b : (H3 ++ [⟨[.slice xa n xc], .own⟩] : AH).length = H3.length + 1 := by simp
  have E4 := ext_trans E3 hK4a
  have f_a0 := f_a0.ext hK4a
  have f_w := f_w.ext hK4a
  have f_x := f_x.ext hK4a
  have f_g := nl.ok.1
  have r_g := nl.ok.2
  have b1 : ∀ {H' : AH}, (∃ K, H' = H4 ++ K) → rd H' H3.length = some [.slice xa n xc] := fun {H'} hK => rd_ext (rd_ext (rd_own (by rw [gt0]; rfl)) hK4) hK
  simp -implicitDefEqProofs only [kz, kk0, kk1, kk2, kk3, ↓two_true, ↓two_false, oS_some, oM_some, mkv, aggAt, Nat.reduceLeDiff, Nat.reduceSub, Nat.reduceMul, implies_true, Nat.reduceEqDiff, reduceIte, Nat.reduceAdd, Nat.reduceBEq, reduceCtorEq, al45, ld40, ld45, st45, (bin_bool_eql ub4), (bin_bool_neq ub4)]
  refine (eqInstrS_th f_g.rd f_w.rd (by omega) (by omega)).mono ?_
  rintro _ H5 ⟨rfl, hK5⟩
  have LH5 := ext_len hK5
  have f_a0 := f_a0.ext hK5
  have f_w := f_w.ext hK5
  have f_x := f_x.ext hK5
  have f_g := f_g.ext hK5
  have E5 := ext_trans E4 hK5
  have F5 : ∃ K, H5 = H4 ++ K := hK5
  simp -implicitDefEqProofs only [kz, kk0, kk1, kk2, kk3, ↓two_true, ↓two_false, oS_some, oM_some, mkv, aggAt, Nat.reduceLeDiff, Nat.reduceSub, Nat.reduceMul, implies_true, Nat.reduceEqDiff, reduceIte, Nat.reduceAdd, Nat.reduceBEq, reduceCtorEq, al45, ld40, ld45, st45, (bin_bool_eql ub4), (bin_bool_neq ub4), beq_self_eq_true, bne_self_eq_false, Bool.not_true, b0 E5, b1 F5]
  refine (toTree_th f_a0 hn1 hs1).mono ?_
  rintro _ H6 ⟨⟨ya, yc, yys, rfl, nl⟩, hK6⟩
  have LH6 := ext_len hK6
  have f_a0 := f_a0.ext hK6
  have f_w := f_w.ext hK6
  have f_x := f_x.ext hK6
  have f_g := f_g.ext hK6
  have E6 := ext_trans E5 hK6
  have F6 := ext_trans F5 hK6
  have f_y := nl.ok.1
  simp -implicitDefEqProofs only [kz, kk0, kk1, kk2, kk3, ↓two_true, ↓two_false, oS_some, oM_some, mkv, aggAt, Nat.reduceLeDiff, Nat.reduceSub, Nat.reduceMul, implies_true, Nat.reduceEqDiff, reduceIte, Nat.reduceAdd, Nat.reduceBEq, reduceCtorEq, al45, ld40, ld45, st45, (bin_bool_eql ub4), (bin_bool_neq ub4), b1 F6]
  refine (eqTree_th f_x.rd f_y.rd (by omega) (by omega)).mono ?_
  rintro _ H7 ⟨rfl, hK7⟩
  have LH7 := ext_len hK7
  have f_a0 := f_a0.ext hK7
  have f_w := f_w.ext hK7
  have f_x := f_x.ext hK7
  have f_g := f_g.ext hK7
  have E7 := ext_trans E6 hK7
  have F7 := ext_trans F6 hK7
  simp -implicitDefEqProofs only [kz, kk0, kk1, kk2, kk3, ↓two_true, ↓two_false, oS_some, oM_some, mkv, aggAt, Nat.reduceLeDiff, Nat.reduceSub, Nat.reduceMul, implies_true, Nat.reduceEqDiff, reduceIte, Nat.reduceAdd, Nat.reduceBEq, reduceCtorEq, al45, ld40, ld45, st45, (bin_bool_eql ub4), (bin_bool_neq ub4), beq_self_eq_true, bne_self_eq_false, Bool.not_true, b1 F7]
  have LH0 : H.length + 1 ≤ H0.length := by have := ext_len hK0; simpa using this
  have hc1 : cntF ([V] : List (List CV)).flatten = cntF V := by simp
  have hd1 : cntF ([cpR V n] : List (List CV)).flatten = cntF (cpR V n) := by simp
  have hdn := cpR_cnt (V := V) (n := n)
  refine (markTree_u f_x (by omega) (by rw [hc1]; omega)).mono ?_
  rintro _ H8 ⟨rfl, xs1, V1, hm, fm, vm⟩
  have L8 := hm.len
  have hfr := (hm.ok r_x).2
  have f_w := f_w.frame hfr (r_w.off (by omega))
  have f_a0 := f_a0.frame hfr (r_a0.off (by omega))
  have f_g := f_g.frame hfr (r_g.off (by omega))
  have b0m : ∀ {H' : AH}, (∃ K, H' = H8 ++ K) → rd H' H.length = some [.slice a0a n a0c] := fun {H'} hK => by
    refine rd_ext ?_ hK
    have h7 := b0 E7
    unfold rd at h7 ⊢
    rw [hfr H.length (by omega) (by omega)]; exact h7
  clear f_x fm vm hm hfr
  rw [hc1]
  have d1 : decide ((1 : Int) + (cntF V : Int) < 0) = false := decide_eq_false (by omega)
  simp -implicitDefEqProofs only [kz, kk0, kk1, kk2, kk3, ↓two_true, ↓two_false, oS_some, oM_some, mkv, aggAt, Nat.reduceLeDiff, Nat.reduceSub, Nat.reduceMul, implies_true, Nat.reduceEqDiff, reduceIte, Nat.reduceAdd, Nat.reduceBEq, reduceCtorEq, al45, ld40, ld45, st45, (bin_bool_eql ub4), (bin_bool_neq ub4), d1]
  refine (eqInstrS_th f_g.rd f_w.rd (by omega) (by omega)).mono ?_
  rintro _ H9 ⟨rfl, hK9⟩
  have LH9 := ext_len hK9
  have f_a0 := f_a0.ext hK9
  have f_w := f_w.ext hK9
  have f_g := f_g.ext hK9
  simp -implicitDefEqProofs only [kz, kk0, kk1, kk2, kk3, ↓two_true, ↓two_false, oS_some, oM_some, mkv, aggAt, Nat.reduceLeDiff, Nat.reduceSub, Nat.reduceMul, implies_true, Nat.reduceEqDiff, reduceIte, Nat.reduceAdd, Nat.reduceBEq, reduceCtorEq, al45, ld40, ld45, st45, (bin_bool_eql ub4), (bin_bool_neq ub4), beq_self_eq_true, bne_self_eq_false, Bool.not_true]
  refine (markInstrS_u f_g (by omega) (by rw [hd1]; omega)).mono ?_
  rintro _ H10 ⟨rfl, gys1, V1, hm, fm, vm⟩
  have L10 := hm.len
  have hfr := (hm.ok r_g).2
  have f_w := f_w.frame hfr (r_w.off (by omega))
  have f_a0 := f_a0.frame hfr (r_a0.off (by omega))
  have f_g := fm
  have b0m : ∀ {H' : AH}, (∃ K, H' = H10 ++ K) → rd H' H.length = some [.slice a0a n a0c] := fun {H'} hK => by
    refine rd_ext ?_ hK
    have h7 := b0m hK9
    unfold rd at h7 ⊢
    rw [hfr H.length (by omega) (fun h => by have h8 := h.1; simp at h8; omega)]; exact h7
  have hc2 : cntF ([V1] : List (List CV)).flatten = cntF (cpR V n) := by rw [vm, cntF_mark, hd1]
  have hh : heldF ([V1] : List (List CV)).flatten 1 = 1 + cntF (cpR V n) := by rw [vm, heldF_mark _ _ (by decide), hd1]
  have d2 : decide ((1 : Int) + (cntF (cpR V n) : Int) < 0) = false := decide_eq_false (by omega)
  clear hm fm vm hfr
  rw [hd1]
  simp -implicitDefEqProofs only [kz, kk0, kk1, kk2, kk3, ↓two_true, ↓two_false, oS_some, oM_some, mkv, aggAt, Nat.reduceLeDiff, Nat.reduceSub, Nat.reduceMul, implies_true, Nat.reduceEqDiff, reduceIte, Nat.reduceAdd, Nat.reduceBEq, reduceCtorEq, al45, ld40, ld45, st45, (bin_bool_eql ub4), (bin_bool_neq ub4)]
  refine (heldInstrS_u f_g (by omega) (by rw [hc2]; omega)).mono ?_
  rintro _ H11 ⟨rfl, hK11⟩
  have LH11 := ext_len hK11
  have f_a0 := f_a0.ext hK11
  have f_w := f_w.ext hK11
  have f_g := f_g.ext hK11
  rw [hh]
  simp -implicitDefEqProofs only [kz, kk0, kk1, kk2, kk3, ↓two_true, ↓two_false, oS_some, oM_some, mkv, aggAt, Nat.reduceLeDiff, Nat.reduceSub, Nat.reduceMul, implies_true, Nat.reduceEqDiff, reduceIte, Nat.reduceAdd, Nat.reduceBEq, reduceCtorEq, al45, ld40, ld45, st45, (bin_bool_eql ub4), (bin_bool_neq ub4), d2, bne_self_eq_false, b0m hK11]
  refine (toTree_th f_a0 hn1 hs1).mono ?_
  rintro _ H12 ⟨⟨za, zc, zys, rfl, nl⟩, hK12⟩
  have LH12 := ext_len hK12
  have f_a0 := f_a0.ext hK12
  have f_w := f_w.ext hK12
  have f_g := f_g.ext hK12
  have f_z := nl.ok.1
  simp -implicitDefEqProofs only [kz, kk0, kk1, kk2, kk3, ↓two_true, ↓two_false, oS_some, oM_some, mkv, aggAt, Nat.reduceLeDiff, Nat.reduceSub, Nat.reduceMul, implies_true, Nat.reduceEqDiff, reduceIte, Nat.reduceAdd, Nat.reduceBEq, reduceCtorEq, al45, ld40, ld45, st45, (bin_bool_eql ub4), (bin_bool_neq ub4)]
  refine (implCompile_u f_z.rd hn1).mono ?_
  rintro _ H13 ⟨⟨ha, hc, hm, hys, rfl, nl, hl⟩, hK13⟩
  have LH13 := ext_len hK13
  have f_w := f_w.ext hK13
  have f_g := f_g.ext hK13
  have f_h := nl.ok.1
  simp -implicitDefEqProofs only [kz, kk0, kk1, kk2, kk3, ↓two_true, ↓two_false, oS_some, oM_some, mkv, aggAt, Nat.reduceLeDiff, Nat.reduceSub, Nat.reduceMul, implies_true, Nat.reduceEqDiff, reduceIte, Nat.reduceAdd, Nat.reduceBEq, reduceCtorEq, al45, ld40, ld45, st45, (bin_bool_eql ub4), (bin_bool_neq ub4)]
  refine (eqInstrS_th f_h.rd f_w.rd (by omega) (by omega)).mono ?_
  rintro _ H14 ⟨rfl, hK14⟩
  have LH14 := ext_len hK14
  have f_g := f_g.ext hK14
  simp -implicitDefEqProofs only [kz, kk0, kk1, kk2, kk3, ↓two_true, ↓two_false, oS_some, oM_some, mkv, aggAt, Nat.reduceLeDiff, Nat.reduceSub, Nat.reduceMul, implies_true, Nat.reduceEqDiff, reduceIte, Nat.reduceAdd, Nat.reduceBEq, reduceCtorEq, al45, ld40, ld45, st45, (bin_bool_eql ub4), (bin_bool_neq ub4), beq_self_eq_true, bne_self_eq_false, Bool.not_true]
  refine (heldInstrS_u f_g (by omega) (by rw [hc2]; omega)).mono ?_
  rintro _ H15 ⟨rfl, hK15⟩
  have LH15 := ext_len hK15
  rw [hh]
  simp -implicitDefEqProofs only [kz, kk0, kk1, kk2, kk3, ↓two_true, ↓two_false, oS_some, oM_some, mkv, aggAt, Nat.reduceLeDiff, Nat.reduceSub, Nat.reduceMul, implies_true, Nat.reduceEqDiff, reduceIte, Nat.reduceAdd, Nat.reduceBEq, reduceCtorEq, al45, ld40, ld45, st45, (bin_bool_eql ub4), (bin_bool_neq ub4), d2, bne_self_eq_false]

end Go.Proofs.Ytamlfhngenndfaa.AM
