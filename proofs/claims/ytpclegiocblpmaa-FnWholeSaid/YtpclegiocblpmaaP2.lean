/- What the functions answer, part 2. -/
import Derived.Test.YtpclegiocblpmaaP1
set_option linter.unusedVariables false
set_option linter.unusedSimpArgs false
set_option linter.defProp false
set_option maxRecDepth 100000
/- What the functions answer, part 2. -/
namespace Go.Proofs.Ytpclegiocblpmaa.AM
open Go Go.Proofs.Ytpclegiocblpmaa Go.Proofs
/-- A row that a call that draws has made. -/
theorem LD.dr {cb : Nat} {H0 H H' : AH} {L : List It} {v : Value} {l : List Int} (h : LD (some cb) H0 H L) (hv : DR H H' v l) (hf : Frm cb H H') : LD (some cb) H0 H' (.row v l :: L) :=
  h.add hf.len (fun b hb hn => hf.keep b hb (by simpa using Ne.symm hn)) (fun g e => by cases e; exact hf.cur) hv.own hv.fr
theorem LD.nrow {c : Option Nat} {H0 H H' : AH} {L : List It} {v : Value} {l : List Int} (h : LD c H0 H L) (hv : DR H H' v l) (hf : ∃ K, H' = H ++ K) : LD c H0 H' (.row v l :: L) := by
  obtain ⟨K, rfl⟩ := hf
  exact h.add (by simp) (fun b hb _ => List.getElem?_append_left hb) (fun g e => (h.cur g e).mono) hv.own hv.fr
theorem LD.lit {c : Option Nat} {H0 H : AH} {L : List It} {cs : List Value} {n : Nat} (h : LD c H0 H L) (l : List Int) (he : cs = ints l) (hn : n = l.length) : LD c H0 (H ++ [⟨cs, .own⟩]) (.row (.slice (some ⟨H.length, 0, none⟩) n 1) l :: L) :=
  h.nrow (DR.lit l (Nat.le_refl _) he hn) ⟨_, rfl⟩
theorem LD.nrow2 {c : Option Nat} {H0 H H' : AH} {L : List It} {v w : Value} {l m : List Int} (h : LD c H0 H L) (hv : DR H H' v l) (hw : DR H H' w m) (hd : Dj v w) (hf : ∃ K, H' = H ++ K) : LD c H0 H' (.row v l :: .row w m :: L) := by
  have h1 := h.nrow hv hf
  have h2 := h.nrow hw hf
  refine ⟨?_, ?_, ?_, h1.len, h1.keep, h1.cur, fun cb e => ?_⟩
  · rintro (_ | i) y hy
    · cases hy; exact hv.own
    · exact h2.ok i y hy
  · rintro (_ | i) y hy b hb
    · cases hy; exact h1.fr 0 _ rfl b hb
    · exact h2.fr i y hy b hb
  · rintro (_ | _ | i) (_ | _ | j) y z hne hy hz b e1 e2
    · exact hne rfl
    · cases hy; cases hz; exact hd b e1 e2
    · exact h1.dj 0 (j + 1) y z (by omega) hy hz b e1 e2
    · cases hy; cases hz; exact hd b e2 e1
    · exact hne rfl
    · exact h2.dj 0 (j + 1) y z (by omega) hy hz b e1 e2
    · exact h1.dj (i + 1) 0 y z (by omega) hy hz b e1 e2
    · exact h2.dj (i + 1) 0 y z (by omega) hy hz b e1 e2
    · exact h1.dj (i + 1) (j + 1) y z (by omega) hy hz b e1 e2
  · rintro (_ | i) y hy
    · cases hy; exact h1.nc cb e 0 _ rfl
    · exact h2.nc cb e i y hy
theorem LD.aown {c : Option Nat} {H0 H H' : AH} {L : List It} {p q v : Value} {sh dt : List Int} (h : LD c H0 H L) (ha : AOwn H H' v sh dt p q) (hf : ∃ K, H' = H ++ K) : LD c H0 H' (.row p sh :: .row q dt :: L) :=
  h.nrow2 ⟨ha.sh, ha.n1⟩ ⟨ha.dt, ha.n2⟩ ha.dj hf
theorem LD.da {cb : Nat} {H0 H H' : AH} {L : List It} {p q : Value} {sh dt : List Int} (h : LD (some cb) H0 H L) (ha : DA H H' p q sh dt) (hf : Frm cb H H') : LD (some cb) H0 H' (.row p sh :: .row q dt :: L) := by
  have h1 := h.dr ha.sh hf
  have h2 := h.dr ha.dt hf
  have := (h.call hf)
  refine ⟨?_, ?_, ?_, h1.len, h1.keep, h1.cur, fun cb e => ?_⟩
  · rintro (_ | i) y hy
    · cases hy; exact ha.sh.own
    · exact h2.ok i y hy
  · rintro (_ | i) y hy b hb
    · cases hy; exact h1.fr 0 _ rfl b hb
    · exact h2.fr i y hy b hb
  · rintro (_ | _ | i) (_ | _ | j) y z hne hy hz b e1 e2
    · exact hne rfl
    · cases hy; cases hz; exact ha.dj b e1 e2
    · exact h1.dj 0 (j + 1) y z (by omega) hy hz b e1 e2
    · cases hy; cases hz; exact ha.dj b e2 e1
    · exact hne rfl
    · exact h2.dj 0 (j + 1) y z (by omega) hy hz b e1 e2
    · exact h1.dj (i + 1) 0 y z (by omega) hy hz b e1 e2
    · exact h2.dj (i + 1) 0 y z (by omega) hy hz b e1 e2
    · exact h1.dj (i + 1) (j + 1) y z (by omega) hy hz b e1 e2
  · rintro (_ | i) y hy
    · cases hy; exact h1.nc cb e 0 _ rfl
    · exact h2.nc cb e i y hy
theorem LD.rd {c : Option Nat} {H0 H : AH} {L : List It} {o : Nat} {cs : List Value} (h : LD c H0 H L) (i : Nat) (hi : L[i]? = some (.box o cs)) : rd H o = some cs ∧ wrt H o = some cs :=
  ⟨rd_own (h.ok i _ hi), wrt_own (h.ok i _ hi)⟩
theorem LD.own {c : Option Nat} {H0 H : AH} {L : List It} {v : Value} {l : List Int} (h : LD c H0 H L) (i : Nat) (hi : L[i]? = some (.row v l)) : OwnRow H v l := h.ok i _ hi
/-- One thing is turned. -/
theorem LD.upd {c : Option Nat} {H0 H H' : AH} {L : List It} {x x' : It} (h : LD c H0 H L) (i : Nat) (hi : L[i]? = some x) (hl : H.length ≤ H'.length) (hk : ∀ b, b < H.length → ¬ x.bs b → H'[b]? = H[b]?) (hx : x'.ok H') (hb : ∀ b, x'.bs b → x.bs b ∨ H.length ≤ b) : LD c H0 H' (L.set i x') := by
  have hil := (List.getElem?_eq_some_iff.1 hi).1
  have get : ∀ (j : Nat) y, (L.set i x')[j]? = some y → (j = i ∧ y = x') ∨ (j ≠ i ∧ L[j]? = some y) := fun j y hy => by
    rcases Nat.decEq i j with e | e
    · rw [List.getElem?_set_ne e] at hy; exact .inr ⟨Ne.symm e, hy⟩
    · subst e; rw [List.getElem?_set_self hil] at hy; cases hy; exact .inl ⟨rfl, rfl⟩
  refine ⟨fun j y hy => ?_, fun j y hy b hb2 => ?_, fun j k y z hne hy hz b e1 e2 => ?_, Nat.le_trans h.len hl, fun b hb2 hn => ?_, fun cb e => ?_, fun cb e j y hy h2 => ?_⟩
  · rcases get j y hy with ⟨rfl, rfl⟩ | ⟨hne, hy⟩
    · exact hx
    · exact (h.ok j y hy).same fun b hb2 => hk b ((h.ok j y hy).lt b hb2) (h.dj j i y x hne hy hi b hb2)
  · rcases get j y hy with ⟨rfl, rfl⟩ | ⟨hne, hy⟩
    · exact (hb b hb2).elim (h.fr j x hi b) fun h2 => Nat.le_trans h.len h2
    · exact h.fr j y hy b hb2
  · rcases get j y hy with ⟨rfl, rfl⟩ | ⟨hne1, hy'⟩
    · rcases get k z hz with ⟨rfl, rfl⟩ | ⟨hne2, hz⟩
      · exact hne rfl
      · exact (hb b e1).elim (fun e1 => h.dj j k x z hne hi hz b e1 e2) fun e1 => by have := (h.ok k z hz).lt b e2; omega
    · rcases get k z hz with ⟨rfl, rfl⟩ | ⟨hne2, hz⟩
      · exact (hb b e2).elim (fun e2 => h.dj j k y x hne hy' hi b e1 e2) fun e2 => by have := (h.ok j y hy').lt b e1; omega
      · exact h.dj j k y z hne hy' hz b e1 e2
  · rw [hk b (Nat.lt_of_lt_of_le hb2 h.len) fun e => by have := h.fr i x hi b e; omega, h.keep b hb2 hn]
  · have h2 := h.cur cb e
    refine h2.same (hk cb h2.lt (h.nc cb e i x hi)) fun b cs hb2 => ?_
    rw [hk b (List.getElem?_eq_some_iff.1 hb2).1 fun e => ?_]
    · exact hb2
    · obtain ⟨cs', h3⟩ := (h.ok i x hi).ownb b e
      rw [hb2] at h3; cases h3
  · rcases get j y hy with ⟨rfl, rfl⟩ | ⟨hne1, hy'⟩
    · exact (hb cb h2).elim (h.nc cb e j x hi) fun h3 => by have := (h.cur cb e).lt; omega
    · exact h.nc cb e j y hy' h2
theorem LD.cursor {H0 H H' : AH} {L : List It} {cb : Nat} (h : LD none H0 H L) (hf : ∃ K, H' = H ++ K) (hc : Cur H' cb) (hb : H.length ≤ cb) : LD (some cb) H0 H' L := by
  have h1 := h.extd hf
  exact ⟨h1.ok, h1.fr, h1.dj, h1.len, fun b hb _ => h1.keep b hb (by simp), fun g e => by cases e; exact hc, fun g e i x hx h2 => by cases e; have := (h.ok i x hx).lt _ h2; omega⟩
theorem LD.out {H0 H : AH} {L : List It} {cb : Nat} (h : LD (some cb) H0 H L) (hb : H0.length ≤ cb) : LD none H0 H L :=
  ⟨h.ok, h.fr, h.dj, h.len, fun b hb2 _ => h.keep b hb2 (by simp; omega), fun _ e => by simp at e, fun _ e => by simp at e⟩
theorem LD.set {c : Option Nat} {H0 H : AH} {L : List It} {o : Nat} {cs : List Value} (h : LD c H0 H L) (i : Nat) (hi : L[i]? = some (.box o cs)) (cs' : List Value) : LD c H0 (H.set o ⟨cs', .own⟩) (L.set i (.box o cs')) :=
  h.upd i hi (by simp) (fun b hb hn => List.getElem?_set_ne (fun e => hn e.symm)) (set_at (h.ok i _ hi)) fun b hb => .inl hb
theorem LD.push {c : Option Nat} {H0 H H' : AH} {L : List It} {v v' : Value} {l m : List Int} (h : LD c H0 H L) (i : Nat) (hi : L[i]? = some (.row v l)) (ho : OwnRow H' v' m) (ha : App H v H' v') : LD c H0 H' (L.set i (.row v' m)) :=
  h.upd i hi ha.len ha.keep ho ha.new
theorem LD.wr1 {c : Option Nat} {H0 H : AH} {L : List It} {b o : Nat} {cs : List Value} {l : List Int} {k : Nat} {x : Int} (h : LD c H0 H L) (i : Nat) (hi : L[i]? = some (.row (.slice (some ⟨b, o, none⟩) l.length 1) l)) (h1 : H[b]? = some ⟨cs, .own⟩) (h2 : o + l.length ≤ cs.length) (h3 : ∀ (i : Nat) x, l[i]? = some x → cs[o + i]? = some (.int .i64 x)) (hk : k < l.length) :
    LD c H0 (H.set b ⟨cs.set (o + k) (.int .i64 x), .own⟩) (L.set i (.row (.slice (some ⟨b, o, none⟩) l.length 1) (l.set k x))) :=
  h.upd i hi (by simp) (fun g hg hn => List.getElem?_set_ne (fun e => hn (by rw [← e]; rfl))) (OwnRow.wr1 h1 h2 h3 hk) fun g hg => .inl hg
theorem LD.join {c : Option Nat} {H0 H H' : AH} {L L' : List It} (h : LD c H0 H L) (g : LD none H H' L') : LD c H0 H' (L' ++ L) := by
  have h1 := h.extd g.ext
  have get : ∀ (i : Nat) x, (L' ++ L)[i]? = some x → (i < L'.length ∧ L'[i]? = some x) ∨ (L'.length ≤ i ∧ L[i - L'.length]? = some x) := fun i x hx => by
    rcases Nat.lt_or_ge i L'.length with e | e
    · rw [List.getElem?_append_left e] at hx; exact .inl ⟨e, hx⟩
    · rw [List.getElem?_append_right e] at hx; exact .inr ⟨e, hx⟩
  refine ⟨fun i x hx => ?_, fun i x hx b hb => ?_, fun i j x y hne hx hy b e1 e2 => ?_, h1.len, h1.keep, h1.cur, fun cb e i x hx hb => ?_⟩
  · rcases get i x hx with ⟨_, hx⟩ | ⟨_, hx⟩
    · exact g.ok _ x hx
    · exact h1.ok _ x hx
  · rcases get i x hx with ⟨_, hx⟩ | ⟨_, hx⟩
    · exact Nat.le_trans h.len (g.fr _ x hx b hb)
    · exact h1.fr _ x hx b hb
  · rcases get i x hx with ⟨a1, hx⟩ | ⟨a1, hx⟩ <;> rcases get j y hy with ⟨a2, hy⟩ | ⟨a2, hy⟩
    · exact g.dj i j x y hne hx hy b e1 e2
    · have := g.fr _ x hx b e1; have := (h.ok _ y hy).lt b e2; omega
    · have := g.fr _ y hy b e2; have := (h.ok _ x hx).lt b e1; omega
    · exact h1.dj _ _ x y (by omega) hx hy b e1 e2
  · rcases get i x hx with ⟨_, hx⟩ | ⟨_, hx⟩
    · have := g.fr _ x hx cb hb; have := (h.cur cb e).lt; omega
    · exact h1.nc cb e _ x hx hb
def pickL (L : List It) (is : List Nat) : List It := is.map fun i => (L[i]?).getD (.row (.slice none 0 0) [])
theorem LD.pick {c : Option Nat} {H0 H : AH} {L : List It} (h : LD c H0 H L) (is : List Nat) (hn : is.Nodup) : LD c H0 H (pickL L is) := by
  have get : ∀ (j : Nat) x, (pickL L is)[j]? = some x → ∃ i, is[j]? = some i ∧ (L[i]? = some x ∨ x = .row (.slice none 0 0) []) := fun j x hx => by
    simp only [pickL, List.getElem?_map, Option.map_eq_some_iff] at hx
    obtain ⟨i, hi, rfl⟩ := hx
    refine ⟨i, hi, ?_⟩
    cases hL : L[i]? with
    | none => exact .inr rfl
    | some y => exact .inl rfl
  have nob : ∀ b, ¬ (It.row (.slice none 0 0) []).bs b := fun b hb => by simp [It.bs, blkOf] at hb
  refine ⟨fun j x hx => ?_, fun j x hx b hb => ?_, fun j k x y hne hx hy b e1 e2 => ?_, h.len, h.keep, h.cur, fun cb e j x hx hb => ?_⟩
  · obtain ⟨i, _, h1 | rfl⟩ := get j x hx
    · exact h.ok i x h1
    · exact OwnRow.nil
  · obtain ⟨i, _, h1 | rfl⟩ := get j x hx
    · exact h.fr i x h1 b hb
    · exact (nob b hb).elim
  · obtain ⟨i, hi, h1 | rfl⟩ := get j x hx
    · obtain ⟨i', hi', h1' | rfl⟩ := get k y hy
      · refine h.dj i i' x y ?_ h1 h1' b e1 e2
        rintro rfl
        obtain ⟨l1, l2⟩ := List.getElem?_eq_some_iff.1 hi
        obtain ⟨l3, l4⟩ := List.getElem?_eq_some_iff.1 hi'
        have hp := List.pairwise_iff_getElem.1 hn
        rcases Nat.lt_or_gt_of_ne hne with e | e
        · exact hp _ _ l1 l3 e (l2.trans l4.symm)
        · exact hp _ _ l3 l1 e (l4.trans l2.symm)
      · exact nob b e2
    · exact nob b e1
  · obtain ⟨i, _, h1 | rfl⟩ := get j x hx
    · exact h.nc cb e i x h1 hb
    · exact nob cb hb
/-- One number of a row is written. -/
theorem LD.wr {c : Option Nat} {H0 H : AH} {L : List It} {v : Value} {l : List Int} {k : Nat} (h : LD c H0 H L) (i : Nat) (hi : L[i]? = some (.row v l)) (hk : k < l.length) :
    ∃ b o cs, v = .slice (some ⟨b, o, none⟩) l.length 1 ∧ wrt H b = some cs ∧ Go.Proofs.Ytpclegiocblpmaa.AM.rd H b = some cs ∧ o + l.length ≤ cs.length ∧ (∀ (i : Nat) x, l[i]? = some x → cs[o + i]? = some (.int .i64 x)) ∧ ∀ x, LD c H0 (H.set b ⟨cs.set (o + k) (.int .i64 x), .own⟩) (L.set i (.row v (l.set k x))) := by
  obtain ⟨b, o, cs, rfl, h1, h2, h3⟩ := (h.own i hi).blk (Nat.lt_of_le_of_lt (Nat.zero_le _) hk)
  exact ⟨b, o, cs, rfl, wrt_own h1, rd_own h1, h2, h3, fun x => h.wr1 i hi h1 h2 h3 hk⟩
theorem LD.cells {c : Option Nat} {H0 H : AH} {L : List It} {v : Value} {l : List Int} (h : LD c H0 H L) (i : Nat) (hi : L[i]? = some (.row v l)) (hk : 0 < l.length) :
    ∃ b o cs, v = .slice (some ⟨b, o, none⟩) l.length 1 ∧ Go.Proofs.Ytpclegiocblpmaa.AM.rd H b = some cs ∧ ∀ (i : Nat) x, l[i]? = some x → cs[o + i]? = some (.int .i64 x) := by
  obtain ⟨b, o, cs, rfl, h1, h2, h3⟩ := (h.own i hi).blk hk
  exact ⟨b, o, cs, rfl, rd_own h1, h3⟩

/-- The bytes of a draw. -/
def BRv (H : AH) (v : Value) : Prop := ∃ a n c, v = .slice a n c ∧ n ≤ 1048576 ∧ BRow H a n c
theorem BRow.mono {H L : AH} {a : Option Addr} {n c : Nat} (h : BRow H a n c) : BRow (H ++ L) a n c := fun hn => by
  obtain ⟨b, o, cs, h1, h2, h3, h4⟩ := h hn
  exact ⟨b, o, cs, h1, h2, gtl h3, h4⟩
theorem BRv.ext {H H' : AH} {v : Value} (h : BRv H v) (he : ∃ K, H' = H ++ K) : BRv H' v := by
  obtain ⟨K, rfl⟩ := he
  obtain ⟨a, n, c, h1, h2, h3⟩ := h
  exact ⟨a, n, c, h1, h2, h3.mono⟩
/-- An array that may be read. -/
structure AR (H : AH) (p q : Value) (sh dt : List Int) : Prop where
  os : IntRow H p sh
  od : IntRow H q dt
  l1 : sh.length ≤ 1048576
  l2 : dt.length ≤ 1048576
theorem AR.ext {H H' : AH} {p q : Value} {sh dt : List Int} (h : AR H p q sh dt) (he : ∃ K, H' = H ++ K) : AR H' p q sh dt := ⟨h.os.ext he, h.od.ext he, h.l1, h.l2⟩
theorem AR.mono {H L : AH} {p q : Value} {sh dt : List Int} (h : AR H p q sh dt) : AR (H ++ L) p q sh dt := h.ext ⟨_, rfl⟩
theorem LD.ar {c : Option Nat} {H0 H : AH} {L : List It} {p q : Value} {sh dt : List Int} (h : LD c H0 H L) (i j : Nat) (hi : L[i]? = some (.row p sh)) (hj : L[j]? = some (.row q dt)) (l1 : sh.length ≤ 1048576) (l2 : dt.length ≤ 1048576) : AR H p q sh dt := ⟨(h.own i hi).int, (h.own j hj).int, l1, l2⟩
theorem LD.of {c : Option Nat} {H0 H : AH} {L L' : List It} (h : LD c H0 H L) (e : L = L') : LD c H0 H L' := by rw [← e]; exact h

theorem big_eq {a : Option Addr} {n c : Nat} {H : AH} {Φ : Value → AH → Prop} : CallsA Try.prog 7 #[.slice a n c] H Φ = Φ (.bool (decide (1048576 < (n : Int)))) H := by
  have : CallsA Try.prog 7 #[.slice a n c] H fun r H' => r = .bool (decide (1048576 < (n : Int))) ∧ H' = H := by
    refine w7 ?_
    unfold k7
    simp -implicitDefEqProofs [kk0, kk1, kk2, kk3, rW_block, ↓two_true, ↓two_false, rW_cond, rO_guard, oS_some, oM_some, mkv, aggAt, Nat.reduceLeDiff, Nat.reduceSub, Nat.reduceMul, cond_true, cond_false, Option.bind_some, List.length_append, List.length_cons, List.length_nil, List.append_assoc, List.cons_append, List.nil_append, List.set_cons_zero, List.set_cons_succ, List.size_toArray, List.all_cons, List.all_nil, List.drop_zero, List.drop_succ_cons, List.take_succ_cons, List.take_zero, List.mem_cons, Prod.mk.injEq, List.not_mem_nil, implies_true, List.getElem?_toArray, List.getElem?_cons_zero, List.getElem?_cons_succ, List.getElem?_nil, Option.getD_some, Option.getD_none, Nat.reduceEqDiff, reduceIte, Nat.reduceAdd, List.map_toArray, List.map_cons, List.map_nil, Bool.false_eq_true, Nat.reduceBEq, Option.map_some, Option.map_none, reduceCtorEq, ln22]
  exact this.eq0

set_option maxHeartbeats 4000000 in
theorem l1New_ok {H : AH} {v : Value} (hv : BRv H v) : CallsA Try.prog 27 #[v] H fun r H' => ∃ cb, r = .pointer (some ⟨cb, 0, none⟩) ∧ Cur H' cb ∧ H.length ≤ cb ∧ ∃ K, H' = H ++ K := by
  obtain ⟨a, n, c, rfl, hn, hr⟩ := hv
  refine w27 ?_
  unfold k27
  simp -implicitDefEqProofs only [kz, kk0, kk1, kk2, kk3, ↓two_true, ↓two_false, oS_some, oM_some, mkv, aggAt, Nat.reduceLeDiff, Nat.reduceSub, Nat.reduceMul, implies_true, Nat.reduceEqDiff, reduceIte, Nat.reduceAdd, Nat.reduceBEq, reduceCtorEq, bd85, cv5_3, ix22, ld5, ln22]
  refine rW_loop (σ := Nat) (fun i tm H' => tm 0 = .slice a n c ∧ (∃ h : Int, tm 3 = .int .i64 h) ∧ tm 4 = .int .i64 i ∧ H' = H ∧ i ≤ n) (fun i => n - i) 0 ?_ ?_
  · exact ⟨rfl, ⟨_, rfl⟩, rfl, rfl, Nat.zero_le _⟩
  · rintro i tm H' ⟨h0, ⟨h, h3⟩, h4, rfl, hi⟩
    simp -implicitDefEqProofs only [kz, kk0, kk1, kk2, kk3, ↓two_true, ↓two_false, oS_some, oM_some, mkv, aggAt, Nat.reduceLeDiff, Nat.reduceSub, Nat.reduceMul, implies_true, Nat.reduceEqDiff, reduceIte, Nat.reduceAdd, Nat.reduceBEq, reduceCtorEq, bd85, cv5_3, ix22, ld5, ln22, h0, h3, h4]
    have fin : ∃ cb, Value.pointer (some ⟨H'.length, 0, none⟩) = Value.pointer (some ⟨cb, 0, none⟩) ∧ Cur (H' ++ [⟨[.slice a n c, .int .i64 0, .int .i64 h], .own⟩]) cb ∧ H'.length ≤ cb ∧ ∃ K, H' ++ [⟨[.slice a n c, .int .i64 0, .int .i64 h], .own⟩] = H' ++ K :=
      ⟨_, rfl, ⟨a, n, c, 0, h, by rw [gt0]; rfl, Nat.zero_le _, hn, hr.mono⟩, Nat.le_refl _, _, rfl⟩
    refine two_intro (fun hc => two_intro (fun hc2 => ?_) (fun hc2 => fin)) (fun hc => fin)
    have hc' : i < n := by simpa using hc
    obtain ⟨b, o, cs, rfl, rfl, hb, hcell⟩ := hr (by omega)
    obtain ⟨v, hv, v0, v1⟩ := hcell i hc'
    have hrb : rd H' b = some cs := by unfold rd; rw [hb]; rfl
    simp -implicitDefEqProofs only [kz, kk0, kk1, kk2, kk3, ↓two_true, ↓two_false, oS_some, oM_some, mkv, aggAt, Nat.reduceLeDiff, Nat.reduceSub, Nat.reduceMul, implies_true, Nat.reduceEqDiff, reduceIte, Nat.reduceAdd, Nat.reduceBEq, reduceCtorEq, bd85, cv5_3, ix22, ld5, ln22, h0, h3, h4, Int.toNat_natCast, Nat.mul_one, hrb, hv, IntWalk.i64_in (↑i + 1) (by omega)]
    exact ⟨⟨by omega, by omega⟩, i + 1, by omega, ⟨_, rfl⟩, by simp, hc'⟩
def Ans1 (H H' : AH) (r : Value) (R : (List Int × List Int) × Int) : Prop := ∃ p q, r = .tuple #[.agg #[p, q], .int .i64 R.2] ∧ LD none H H' [.row p R.1.1, .row q R.1.2]
/-- A value that is an array, without a code. -/
def AnsA (H H' : AH) (r : Value) (R : List Int × List Int) : Prop := ∃ p q, r = .agg #[p, q] ∧ LD none H H' [.row p R.1, .row q R.2]
theorem Ans1.err {H H' : AH} {c : Int} {L : List It} (h : LD none H H' L) : Ans1 H H' (.tuple #[.agg #[.slice none 0 0, .slice none 0 0], .int .i64 c]) (([], []), c) :=
  ⟨_, _, rfl, (h.pick [] (by decide)).nrow2 ⟨OwnRow.nil, fun b hb => by simp [blkOf] at hb⟩ ⟨OwnRow.nil, fun b hb => by simp [blkOf] at hb⟩ (fun b hb => by simp [blkOf] at hb) ext_refl⟩
theorem LD.ans {H H' : AH} {L : List It} {p q : Value} {c : Int} {sh dt : List Int} (h : LD none H H' L) (i j : Nat) (hij : i ≠ j) (hi : L[i]? = some (.row p sh)) (hj : L[j]? = some (.row q dt)) : Ans1 H H' (.tuple #[.agg #[p, q], .int .i64 c]) ((sh, dt), c) := by
  have := h.pick [i, j] (by simp [hij])
  simp only [pickL, List.map_cons, List.map_nil, hi, hj, Option.getD_some] at this
  exact ⟨_, _, rfl, this⟩
theorem ARes.ld {H H' : AH} {r : Value} {R : (List Int × List Int) × Int} (h : ARes H H' r R) : Ans1 H H' r R := by
  obtain ⟨⟨a, c, b, d, rfl, h⟩, he⟩ := h
  exact ⟨_, _, rfl, LD.nil.aown h he⟩
theorem AR.o1 {H : AH} {p q : Value} {sh dt : List Int} (h : AR H p q sh dt) : ∃ a c b d, p = .slice a sh.length c ∧ q = .slice b dt.length d := by
  obtain ⟨a, c, e, _⟩ := h.os.op
  obtain ⟨b, d, e', _⟩ := h.od.op
  exact ⟨a, c, b, d, e, e'⟩
/-- The cells of a row that may be read. -/
theorem IntRow.cells {H : AH} {a : Option Addr} {n c : Nat} {l : List Int} (h : IntRow H (.slice a n c) l) {i : Nat} (hi : i < l.length) : n = l.length ∧ ∃ b o cs, a = some ⟨b, o, none⟩ ∧ c = 1 ∧ rd H b = some cs ∧ cs[o + i]? = some (.int .i64 l[i]) := by
  obtain ⟨a', c', e, g⟩ := h.op
  injection e with e1 e2 e3
  subst e1; subst e2; subst e3
  obtain ⟨b, o, cs, g1, g2, g3, g4, g5⟩ := g (by omega)
  exact ⟨rfl, b, o, cs, g1, g2, g3, g5 i hi⟩
theorem AR.lim {H : AH} {p q : Value} {sh dt : List Int} (h : AR H p q sh dt) : sh.length < 4611686018427387904 ∧ dt.length < 4611686018427387904 := by
  have := h.l1; have := h.l2; omega
theorem implOk_ar {H : AH} {p q : Value} {sh dt : List Int} (h : AR H p q sh dt) : CallsA Try.prog 28 #[.agg #[p, q]] H fun r H' => r = .bool (arrOk sh dt) ∧ ∃ K, H' = H ++ K := implArrayOk_ok h.os h.od h.lim.1 h.lim.2

theorem specOk_ar {H : AH} {p q : Value} {sh dt : List Int} (h : AR H p q sh dt) : CallsA Try.prog 33 #[.agg #[p, q]] H fun r H' => r = .bool (arrOk sh dt) ∧ ∃ K, H' = H ++ K := specArrayOk_ok h.os h.od h.lim.1 h.lim.2

set_option maxHeartbeats 4000000 in
theorem copyA_ok {H : AH} {p q : Value} {sh dt : List Int} (h : AR H p q sh dt) : CallsA Try.prog 29 #[.agg #[p, q]] H fun r H' => AnsA H H' r (sh, dt) := by
  refine (copyArray_ok h.os h.od (by have := h.l1; omega) (by have := h.l2; omega)).mono ?_
  rintro r H' ⟨⟨p', q', ao⟩, he⟩
  exact ⟨p', q', ao.eq, LD.nil.aown ao he⟩

set_option maxHeartbeats 4000000 in
theorem vector_ok {H : AH} {v : Value} {l : List Int} (hv : IntRow H v l) (hl : l.length ≤ 1048576) : CallsA Try.prog 38 #[v] H fun r H' => AnsA H H' r ([(l.length : Int)], l) := by
  obtain ⟨a, c, rfl, _⟩ := hv.op
  refine w38 ?_
  unfold k38
  have q := (LD.nil (H := H)).box [.slice none 0 0, .slice none 0 0] |>.lit (cs := [.int .i64 l.length]) (n := 1) [(l.length : Int)] rfl rfl |>.nrow (v := .slice none 0 0) (l := []) ⟨OwnRow.nil, fun b hb => by simp [blkOf] at hb⟩ ext_refl
  simp -implicitDefEqProofs only [kz, kk0, kk1, kk2, kk3, ↓two_true, ↓two_false, oS_some, oM_some, mkv, aggAt, Nat.reduceLeDiff, Nat.reduceSub, Nat.reduceMul, implies_true, Nat.reduceEqDiff, reduceIte, Nat.reduceAdd, Nat.reduceBEq, reduceCtorEq, al26, ap24_24, bd26, bs24_1, ld26, ln24, st26] at q ⊢
  refine oA_own (q.own 0 rfl) (hv.ext q.ext) (by simp; omega) fun a2 c2 H1 o1 x1 => ?_
  have q := q.push 0 rfl o1 x1
  simp only [List.length_nil, Nat.zero_add, List.nil_append] at q ⊢
  have w := q.set 2 rfl [.slice (some ⟨H.length + 1, 0, none⟩) 1 1, .slice a2 l.length c2]
  simp -implicitDefEqProofs only [kz, kk0, kk1, kk2, kk3, ↓two_true, ↓two_false, oS_some, oM_some, mkv, aggAt, Nat.reduceLeDiff, Nat.reduceSub, Nat.reduceMul, implies_true, Nat.reduceEqDiff, reduceIte, Nat.reduceAdd, Nat.reduceBEq, reduceCtorEq, al26, ap24_24, bd26, bs24_1, ld26, ln24, st26, (q.rd 2 rfl).2, (w.rd 2 rfl).1]
  exact ⟨_, _, rfl, w.pick [1, 0] (by decide)⟩

/-- A table whose cells lie in what is never turned; its own block is the function's. -/
structure TabOk (B : Nat → Prop) (H : AH) (v : Value) (ks : List CK) (n : Nat) (xs : List Value) : Prop where
  len : xs.length = n * ks.length
  row : (v = .slice none 0 0 ∧ n = 0) ∨ ∃ b o cs, v = .slice (some ⟨b, o, none⟩) n ks.length ∧ H[b]? = some ⟨cs, .own⟩ ∧ o + n * ks.length ≤ cs.length ∧ ∀ (j : Nat) y, xs[j]? = some y → cs[o + j]? = some y
  cell : ∀ (i c : Nat) k y, i < n → ks[c]? = some k → xs[i * ks.length + c]? = some y → KOk H k y
  base : ∀ y ∈ xs, ∀ b, blkOf y = some b → B b
theorem TabOk.frow {B : Nat → Prop} {H : AH} {v : Value} {ks : List CK} {n : Nat} {xs : List Value} (h : TabOk B H v ks n xs) : FRow H v ks n xs := by
  refine ⟨h.len, ?_, h.cell⟩
  rcases h.row with h1 | ⟨b, o, cs, h1, h2, h3⟩
  · exact .inl h1
  · exact .inr ⟨b, o, cs, h1, rd_own h2, h3⟩
theorem TabOk.same {B B' : Nat → Prop} {H H' : AH} {v : Value} {ks : List CK} {n : Nat} {xs : List Value} (h : TabOk B H v ks n xs) (hv : ∀ b, blkOf v = some b → H'[b]? = H[b]?) (hB : ∀ b, B b → H'[b]? = H[b]?) (hBB : ∀ b, B b → B' b) : TabOk B' H' v ks n xs := by
  refine ⟨h.len, ?_, fun i c k y hi hk hy => (h.cell i c k y hi hk hy).same fun b hb => get_rd (hB b (h.base y (List.mem_of_getElem? hy) b hb)), fun y hy b hb => hBB b (h.base y hy b hb)⟩
  rcases h.row with h1 | ⟨b, o, cs, h1, h2, h3⟩
  · exact .inl h1
  · exact .inr ⟨b, o, cs, h1, by rw [hv b (by rw [h1]; rfl)]; exact h2, h3⟩
theorem TabOk.vals {B : Nat → Prop} {H H' : AH} {v : Value} {ks : List CK} {n : Nat} {xs : List Value} (h : TabOk B H v ks n xs) (hB : ∀ b, B b → H'[b]? = H[b]?) : cvs H' xs = cvs H xs :=
  FRow.cvs_same fun b ⟨y, hy, hb⟩ => get_rd (hB b (h.base y hy b hb))
/-- A table that is only read. -/
structure FTab (B : Nat → Prop) (H : AH) (v : Value) (ks : List CK) (n : Nat) (xs : List Value) : Prop where
  fr : FRow H v ks n xs
  base : ∀ b, (blkOf v = some b ∨ ∃ y ∈ xs, blkOf y = some b) → B b
inductive Ix where
  | own (x : It)
  | tab (v : Value) (ks : List CK) (n : Nat) (xs : List Value) (V : List CV)
  | fro (v : Value) (l : List Int)
  | ftab (v : Value) (ks : List CK) (n : Nat) (xs : List Value) (V : List CV)
def Ix.ok (B : Nat → Prop) (H : AH) : Ix → Prop
  | .own x => x.ok H
  | .tab v ks n xs V => TabOk B H v ks n xs ∧ cvs H xs = V
  | .fro v l => IntRow H v l ∧ ∀ b, blkOf v = some b → B b
  | .ftab v ks n xs V => FTab B H v ks n xs ∧ cvs H xs = V
def Ix.bs : Ix → Nat → Prop
  | .own x, b => x.bs b
  | .tab v _ _ _ _, b => blkOf v = some b
  | .fro _ _, _ => False
  | .ftab _ _ _ _ _, _ => False
theorem Ix.ok.same {B B' : Nat → Prop} {H H' : AH} {x : Ix} (h : x.ok B H) (hs : ∀ b, x.bs b → H'[b]? = H[b]?) (hB : ∀ b, B b → H'[b]? = H[b]?) (hBB : ∀ b, B b → B' b) : x.ok B' H' := by
  cases x with
  | own x => exact It.ok.same h hs
  | tab v ks n xs V => exact ⟨h.1.same hs hB hBB, (h.1.vals hB).trans h.2⟩
  | fro v l => exact ⟨h.1.same fun b o n c e => get_rd (hB b (h.2 b (by rw [e]; rfl))), fun b hb => hBB b (h.2 b hb)⟩
  | ftab v ks n xs V => exact ⟨⟨h.1.fr.same fun b hb => get_rd (hB b (h.1.base b hb)), fun b hb => hBB b (h.1.base b hb)⟩, (FRow.cvs_same fun b hb => get_rd (hB b (h.1.base b (.inr hb)))).trans h.2⟩
theorem Ix.ok.ownb {B : Nat → Prop} {H : AH} {x : Ix} (h : x.ok B H) : ∀ b, x.bs b → ∃ cs, H[b]? = some (⟨cs, .own⟩ : Blk) := by
  intro b hb
  cases x with
  | own x => exact It.ok.ownb h b hb
  | tab v ks n xs V =>
    rcases h.1.row with ⟨e, _⟩ | ⟨b', o, cs, e, h2, _⟩
    · rw [e] at hb; simp [Ix.bs, blkOf] at hb
    · rw [e] at hb; simp [Ix.bs, blkOf] at hb; subst hb; exact ⟨cs, h2⟩
  | fro v l => exact hb.elim
  | ftab v ks n xs V => exact hb.elim
theorem Ix.ok.lt {B : Nat → Prop} {H : AH} {x : Ix} (h : x.ok B H) : ∀ b, x.bs b → b < H.length := fun b hb => by
  obtain ⟨cs, h⟩ := h.ownb b hb
  exact (List.getElem?_eq_some_iff.1 h).1
structure LB (B : Nat → Prop) (c : Option Nat) (H0 H : AH) (L : List Ix) : Prop where
  ok : ∀ (i : Nat) x, L[i]? = some x → x.ok B H
  fr : ∀ (i : Nat) x, L[i]? = some x → ∀ b, x.bs b → ¬ B b ∧ H0.length ≤ b
  dj : ∀ (i j : Nat) x y, i ≠ j → L[i]? = some x → L[j]? = some y → ∀ b, x.bs b → ¬ y.bs b
  len : H0.length ≤ H.length
  keep : ∀ b, b < H0.length → c ≠ some b → H[b]? = H0[b]?
  b0 : ∀ b, b < H0.length → c ≠ some b → B b
  bl : ∀ b, B b → b < H.length ∧ c ≠ some b
  cur : ∀ cb, c = some cb → Cur H cb
  nc : ∀ cb, c = some cb → ∀ (i : Nat) x, L[i]? = some x → ¬ x.bs cb
/-- What a function holds: each by itself, none older than the call; and what it only reads. -/
def LX (c : Option Nat) (H0 H : AH) (L : List Ix) : Prop := ∃ B, LB B c H0 H L
theorem LX.ext {H0 H : AH} {L : List Ix} (h : LX none H0 H L) : ∃ K, H = H0 ++ K := by
  obtain ⟨B, h⟩ := h
  exact ext_of h.len fun b hb => h.keep b hb (by simp)
theorem LX.frm {cb : Nat} {H0 H : AH} {L : List Ix} (h : LX (some cb) H0 H L) : Frm cb H0 H := by
  obtain ⟨B, h⟩ := h
  exact ⟨h.len, fun b hb hn => h.keep b hb (by simpa using Ne.symm hn), h.cur cb rfl⟩
theorem LX.len {c : Option Nat} {H0 H : AH} {L : List Ix} (h : LX c H0 H L) : H0.length ≤ H.length := by
  obtain ⟨B, h⟩ := h; exact h.len
theorem LX.nil {H : AH} : LX none H H [] :=
  ⟨fun b => b < H.length, fun i x h => by simp at h, fun i x h => by simp at h, fun i j x y _ h => by simp at h, Nat.le_refl _, fun _ _ _ => rfl, fun b hb _ => hb, fun b hb => ⟨hb, by simp⟩, fun _ h => by simp at h, fun _ h => by simp at h⟩
/-- The heap turns, but for what is held or only read. -/
theorem LB.add {B : Nat → Prop} {c : Option Nat} {H0 H H' : AH} {L : List Ix} {x : Ix} (h : LB B c H0 H L) (hl : H.length ≤ H'.length) (hk : ∀ b, b < H.length → c ≠ some b → H'[b]? = H[b]?) (hc : ∀ cb, c = some cb → Cur H' cb) (hx : x.ok B H') (hb : ∀ b, x.bs b → H.length ≤ b) : LB B c H0 H' (x :: L) := by
  have same : ∀ (i : Nat) y, L[i]? = some y → y.ok B H' := fun i y hy => (h.ok i y hy).same (fun b hb => hk b ((h.ok i y hy).lt b hb) fun e => h.nc b e i y hy hb) (fun b hb => hk b (h.bl b hb).1 (h.bl b hb).2) fun b hb => hb
  refine ⟨?_, ?_, ?_, Nat.le_trans h.len hl, fun b hb hn => ?_, h.b0, fun b hb => ⟨Nat.lt_of_lt_of_le (h.bl b hb).1 hl, (h.bl b hb).2⟩, hc, fun cb e => ?_⟩
  · rintro (_ | i) y hy
    · cases hy; exact hx
    · exact same i y hy
  · rintro (_ | i) y hy b hb2
    · cases hy
      exact ⟨fun hB => by have := (h.bl b hB).1; have := hb b hb2; omega, Nat.le_trans h.len (hb b hb2)⟩
    · exact h.fr i y hy b hb2
  · rintro (_ | i) (_ | j) y z hne hy hz b h1 h2
    · exact hne rfl
    · cases hy; have := hb b h1; have := (h.ok j z hz).lt b h2; omega
    · cases hz; have := hb b h2; have := (h.ok i y hy).lt b h1; omega
    · exact h.dj i j y z (by omega) hy hz b h1 h2
  · rw [hk b (Nat.lt_of_lt_of_le hb h.len) hn, h.keep b hb hn]
  · rintro (_ | i) y hy h2
    · cases hy; have := hb cb h2; have := (h.cur cb e).lt; omega
    · exact h.nc cb e i y hy h2
theorem LB.tail {B : Nat → Prop} {c : Option Nat} {H0 H : AH} {L : List Ix} {x : Ix} (h : LB B c H0 H (x :: L)) : LB B c H0 H L :=
  ⟨fun i y hy => h.ok (i + 1) y hy, fun i y hy => h.fr (i + 1) y hy, fun i j y z hne hy hz => h.dj (i + 1) (j + 1) y z (by omega) hy hz, h.len, h.keep, h.b0, h.bl, h.cur, fun cb e i y hy => h.nc cb e (i + 1) y hy⟩
theorem LX.tail {c : Option Nat} {H0 H : AH} {L : List Ix} {x : Ix} (h : LX c H0 H (x :: L)) : LX c H0 H L := by
  obtain ⟨B, h⟩ := h; exact ⟨B, h.tail⟩
theorem LB.grow {B : Nat → Prop} {c : Option Nat} {H0 H H' : AH} {L : List Ix} (h : LB B c H0 H L) (hl : H.length ≤ H'.length) (hk : ∀ b, b < H.length → c ≠ some b → H'[b]? = H[b]?) (hc : ∀ cb, c = some cb → Cur H' cb) : LB B c H0 H' L :=
  (h.add (x := .own (.row (.slice none 0 0) [])) hl hk hc OwnRow.nil fun b hb => by simp [Ix.bs, It.bs, blkOf] at hb).tail
theorem LX.call {cb : Nat} {H0 H H' : AH} {L : List Ix} (h : LX (some cb) H0 H L) (hf : Frm cb H H') : LX (some cb) H0 H' L := by
  obtain ⟨B, h⟩ := h
  exact ⟨B, h.grow hf.len (fun b hb hn => hf.keep b hb (by simpa using Ne.symm hn)) (fun g e => by cases e; exact hf.cur)⟩
theorem LX.extd {c : Option Nat} {H0 H H' : AH} {L : List Ix} (h : LX c H0 H L) (hf : ∃ K, H' = H ++ K) : LX c H0 H' L := by
  obtain ⟨B, h⟩ := h
  obtain ⟨K, rfl⟩ := hf
  exact ⟨B, h.grow (by simp) (fun b hb _ => List.getElem?_append_left hb) (fun g e => (h.cur g e).mono)⟩
/-- One thing is turned. -/
theorem LB.upd {B : Nat → Prop} {c : Option Nat} {H0 H H' : AH} {L : List Ix} {x x' : Ix} (h : LB B c H0 H L) (i : Nat) (hi : L[i]? = some x) (hl : H.length ≤ H'.length) (hk : ∀ b, b < H.length → ¬ x.bs b → H'[b]? = H[b]?) (hx : x'.ok B H') (hb : ∀ b, x'.bs b → x.bs b ∨ H.length ≤ b) : LB B c H0 H' (L.set i x') := by
  have hil := (List.getElem?_eq_some_iff.1 hi).1
  have get : ∀ (j : Nat) y, (L.set i x')[j]? = some y → (j = i ∧ y = x') ∨ (j ≠ i ∧ L[j]? = some y) := fun j y hy => by
    rcases Nat.decEq i j with e | e
    · rw [List.getElem?_set_ne e] at hy; exact .inr ⟨Ne.symm e, hy⟩
    · subst e; rw [List.getElem?_set_self hil] at hy; cases hy; exact .inl ⟨rfl, rfl⟩
  have hB : ∀ b, B b → H'[b]? = H[b]? := fun b hb => hk b (h.bl b hb).1 fun e => (h.fr i x hi b e).1 hb
  refine ⟨fun j y hy => ?_, fun j y hy b hb2 => ?_, fun j k y z hne hy hz b e1 e2 => ?_, Nat.le_trans h.len hl, fun b hb2 hn => ?_, h.b0, fun b hb => ⟨Nat.lt_of_lt_of_le (h.bl b hb).1 hl, (h.bl b hb).2⟩, fun cb e => ?_, fun cb e j y hy h2 => ?_⟩
  · rcases get j y hy with ⟨rfl, rfl⟩ | ⟨hne, hy⟩
    · exact hx
    · exact (h.ok j y hy).same (fun b hb2 => hk b ((h.ok j y hy).lt b hb2) (h.dj j i y x hne hy hi b hb2)) hB fun b hb => hb
  · rcases get j y hy with ⟨rfl, rfl⟩ | ⟨hne, hy⟩
    · exact (hb b hb2).elim (h.fr j x hi b) fun h2 => ⟨fun hB2 => by have := (h.bl b hB2).1; omega, Nat.le_trans h.len h2⟩
    · exact h.fr j y hy b hb2
  · rcases get j y hy with ⟨rfl, rfl⟩ | ⟨hne1, hy'⟩
    · rcases get k z hz with ⟨rfl, rfl⟩ | ⟨hne2, hz⟩
      · exact hne rfl
      · exact (hb b e1).elim (fun e1 => h.dj j k x z hne hi hz b e1 e2) fun e1 => by have := (h.ok k z hz).lt b e2; omega
    · rcases get k z hz with ⟨rfl, rfl⟩ | ⟨hne2, hz⟩
      · exact (hb b e2).elim (fun e2 => h.dj j k y x hne hy' hi b e1 e2) fun e2 => by have := (h.ok j y hy').lt b e1; omega
      · exact h.dj j k y z hne hy' hz b e1 e2
  · rw [hk b (Nat.lt_of_lt_of_le hb2 h.len) fun e => by have := (h.fr i x hi b e).2; omega, h.keep b hb2 hn]
  · have h2 := h.cur cb e
    refine h2.same (hk cb h2.lt (h.nc cb e i x hi)) fun b cs hb2 => ?_
    rw [hk b (List.getElem?_eq_some_iff.1 hb2).1 fun e => ?_]
    · exact hb2
    · obtain ⟨cs', h3⟩ := (h.ok i x hi).ownb b e
      rw [hb2] at h3; cases h3
  · rcases get j y hy with ⟨rfl, rfl⟩ | ⟨hne1, hy'⟩
    · exact (hb cb h2).elim (h.nc cb e j x hi) fun h3 => by have := (h.cur cb e).lt; omega
    · exact h.nc cb e j y hy' h2
theorem LX.rd {c : Option Nat} {H0 H : AH} {L : List Ix} {o : Nat} {cs : List Value} (h : LX c H0 H L) (i : Nat) (hi : L[i]? = some (.own (.box o cs))) : rd H o = some cs ∧ wrt H o = some cs := by
  obtain ⟨B, h⟩ := h
  exact ⟨rd_own (h.ok i _ hi), wrt_own (h.ok i _ hi)⟩
theorem LX.own {c : Option Nat} {H0 H : AH} {L : List Ix} {v : Value} {l : List Int} (h : LX c H0 H L) (i : Nat) (hi : L[i]? = some (.own (.row v l))) : OwnRow H v l := by
  obtain ⟨B, h⟩ := h; exact h.ok i _ hi
theorem LX.int {c : Option Nat} {H0 H : AH} {L : List Ix} {v : Value} {l : List Int} (h : LX c H0 H L) (i : Nat) (hi : L[i]? = some (.own (.row v l))) : IntRow H v l := (h.own i hi).int
theorem LX.ri {c : Option Nat} {H0 H : AH} {L : List Ix} {v : Value} {l : List Int} (h : LX c H0 H L) (i : Nat) (hi : L[i]? = some (.fro v l)) : IntRow H v l := by
  obtain ⟨B, h⟩ := h; exact (h.ok i _ hi).1
theorem LX.tb {c : Option Nat} {H0 H : AH} {L : List Ix} {v : Value} {ks : List CK} {n : Nat} {xs : List Value} {V : List CV} (h : LX c H0 H L) (i : Nat) (hi : L[i]? = some (.tab v ks n xs V)) : FRow H v ks n xs ∧ cvs H xs = V := by
  obtain ⟨B, h⟩ := h; exact ⟨(h.ok i _ hi).1.frow, (h.ok i _ hi).2⟩
theorem LX.cur {H0 H : AH} {L : List Ix} {cb : Nat} (h : LX (some cb) H0 H L) : Cur H cb := by
  obtain ⟨B, h⟩ := h; exact h.cur cb rfl
theorem LX.nc {H0 H : AH} {L : List Ix} {cb : Nat} {v : Value} {l : List Int} (h : LX (some cb) H0 H L) (i : Nat) (hi : L[i]? = some (.own (.row v l))) : blkOf v ≠ some cb := by
  obtain ⟨B, h⟩ := h
  exact h.nc cb rfl i _ hi
theorem LX.box {c : Option Nat} {H0 H : AH} {L : List Ix} (h : LX c H0 H L) (cs : List Value) : LX c H0 (H ++ [⟨cs, .own⟩]) (.own (.box H.length cs) :: L) := by
  obtain ⟨B, h⟩ := h
  exact ⟨B, h.add (by simp) (fun b hb _ => List.getElem?_append_left hb) (fun g e => (h.cur g e).mono) (by show (H ++ [⟨cs, .own⟩])[H.length]? = _; rw [gt0]; rfl) fun b hb => by cases hb; exact Nat.le_refl _⟩
theorem LX.nrow {c : Option Nat} {H0 H H' : AH} {L : List Ix} {v : Value} {l : List Int} (h : LX c H0 H L) (hv : DR H H' v l) (hf : ∃ K, H' = H ++ K) : LX c H0 H' (.own (.row v l) :: L) := by
  obtain ⟨B, h⟩ := h
  obtain ⟨K, rfl⟩ := hf
  exact ⟨B, h.add (by simp) (fun b hb _ => List.getElem?_append_left hb) (fun g e => (h.cur g e).mono) hv.own hv.fr⟩
theorem LX.nil0 {c : Option Nat} {H0 H : AH} {L : List Ix} (h : LX c H0 H L) : LX c H0 H (.own (.row (.slice none 0 0) []) :: L) :=
  h.nrow ⟨OwnRow.nil, fun b hb => by simp [blkOf] at hb⟩ ext_refl
theorem LX.set {c : Option Nat} {H0 H : AH} {L : List Ix} {o : Nat} {cs : List Value} (h : LX c H0 H L) (i : Nat) (hi : L[i]? = some (.own (.box o cs))) (cs' : List Value) : LX c H0 (H.set o ⟨cs', .own⟩) (L.set i (.own (.box o cs'))) := by
  obtain ⟨B, h⟩ := h
  exact ⟨B, h.upd i hi (by simp) (fun b hb hn => List.getElem?_set_ne (fun e => hn e.symm)) (set_at (h.ok i _ hi)) fun b hb => .inl hb⟩
theorem LX.push {c : Option Nat} {H0 H H' : AH} {L : List Ix} {v v' : Value} {l m : List Int} (h : LX c H0 H L) (i : Nat) (hi : L[i]? = some (.own (.row v l))) (ho : OwnRow H' v' m) (ha : App H v H' v') : LX c H0 H' (L.set i (.own (.row v' m))) := by
  obtain ⟨B, h⟩ := h
  exact ⟨B, h.upd i hi ha.len ha.keep ho ha.new⟩
theorem LX.wr {c : Option Nat} {H0 H : AH} {L : List Ix} {v : Value} {l : List Int} {k : Nat} (h : LX c H0 H L) (i : Nat) (hi : L[i]? = some (.own (.row v l))) (hk : k < l.length) :
    ∃ b o cs, v = .slice (some ⟨b, o, none⟩) l.length 1 ∧ wrt H b = some cs ∧ Go.Proofs.Ytpclegiocblpmaa.AM.rd H b = some cs ∧ o + l.length ≤ cs.length ∧ (∀ (i : Nat) x, l[i]? = some x → cs[o + i]? = some (.int .i64 x)) ∧ ∀ x, LX c H0 (H.set b ⟨cs.set (o + k) (.int .i64 x), .own⟩) (L.set i (.own (.row v (l.set k x)))) := by
  obtain ⟨b, o, cs, rfl, h1, h2, h3⟩ := (h.own i hi).blk (Nat.lt_of_le_of_lt (Nat.zero_le _) hk)
  obtain ⟨B, h⟩ := h
  exact ⟨b, o, cs, rfl, wrt_own h1, rd_own h1, h2, h3, fun x => ⟨B, h.upd i hi (by simp) (fun g hg hn => List.getElem?_set_ne (fun e => hn (by rw [← e]; rfl))) (OwnRow.wr1 h1 h2 h3 hk) fun g hg => .inl hg⟩⟩
/-- What a callee leaves is held from here on. -/
theorem LX.join {c : Option Nat} {H0 H H' : AH} {L : List Ix} {L' : List It} (h : LX c H0 H L) (g : LD none H H' L') : LX c H0 H' (L'.map .own ++ L) := by
  obtain ⟨B, h⟩ := h
  obtain ⟨K, hK⟩ := g.ext
  have h1 : LB B c H0 H' L := h.grow g.len (fun b hb _ => g.keep b hb (by simp)) fun cb e => by rw [hK]; exact (h.cur cb e).mono
  have get : ∀ (i : Nat) x, (L'.map Ix.own ++ L)[i]? = some x → (∃ y, x = .own y ∧ L'[i]? = some y) ∨ (L'.length ≤ i ∧ L[i - L'.length]? = some x) := fun i x hx => by
    rcases Nat.lt_or_ge i L'.length with e | e
    · rw [List.getElem?_append_left (by simpa using e), List.getElem?_map, Option.map_eq_some_iff] at hx
      obtain ⟨y, hy, rfl⟩ := hx
      exact .inl ⟨y, rfl, hy⟩
    · rw [List.getElem?_append_right (by simpa using e), List.length_map] at hx; exact .inr ⟨e, hx⟩
  refine ⟨B, fun i x hx => ?_, fun i x hx b hb => ?_, fun i j x y hne hx hy b e1 e2 => ?_, h1.len, h1.keep, h1.b0, h1.bl, h1.cur, fun cb e i x hx hb => ?_⟩
  · rcases get i x hx with ⟨y, rfl, gx⟩ | ⟨_, hx⟩
    · exact g.ok _ y gx
    · exact h1.ok _ x hx
  · rcases get i x hx with ⟨y, rfl, gx⟩ | ⟨_, hx⟩
    · have := g.fr _ y gx b hb
      exact ⟨fun e => by have := (h.bl b e).1; omega, Nat.le_trans h.len this⟩
    · exact h1.fr _ x hx b hb
  · rcases get i x hx with ⟨x', rfl, gx⟩ | ⟨a1, hx⟩ <;> rcases get j y hy with ⟨y', rfl, gy⟩ | ⟨a2, hy⟩
    · exact g.dj i j x' y' hne gx gy b e1 e2
    · have := g.fr _ x' gx b e1; have := (h.ok _ y hy).lt b e2; omega
    · have := g.fr _ y' gy b e2; have := (h.ok _ x hx).lt b e1; omega
    · exact h1.dj _ _ x y (by omega) hx hy b e1 e2
  · rcases get i x hx with ⟨y, rfl, gx⟩ | ⟨_, hx⟩
    · have := g.fr _ y gx cb hb; have := (h.cur cb e).lt; omega
    · exact h1.nc cb e _ x hx hb
/-- What is handed back. -/
theorem LX.give {c : Option Nat} {H0 H : AH} {L : List Ix} (h : LX c H0 H L) (is : List Nat) (hn : is.Nodup) (L' : List It) (hL : is.map (fun i => L[i]?) = L'.map (fun x => some (.own x))) : LD c H0 H L' := by
  obtain ⟨B, h⟩ := h
  have get : ∀ (j : Nat) x, L'[j]? = some x → ∃ i, is[j]? = some i ∧ L[i]? = some (.own x) := fun j x hx => by
    have := congrArg (fun l => l[j]?) hL
    simp only [List.getElem?_map, hx, Option.map_some, Option.map_eq_some_iff] at this
    exact this
  refine ⟨fun j x hx => ?_, fun j x hx b hb => ?_, fun j k x y hne hx hy b e1 e2 => ?_, h.len, h.keep, h.cur, fun cb e j x hx hb => ?_⟩
  · obtain ⟨i, _, h1⟩ := get j x hx
    exact h.ok i _ h1
  · obtain ⟨i, _, h1⟩ := get j x hx
    exact (h.fr i _ h1 b hb).2
  · obtain ⟨i, hi, h1⟩ := get j x hx
    obtain ⟨i', hi', h1'⟩ := get k y hy
    refine h.dj i i' _ _ ?_ h1 h1' b e1 e2
    rintro rfl
    obtain ⟨l1, l2⟩ := List.getElem?_eq_some_iff.1 hi
    obtain ⟨l3, l4⟩ := List.getElem?_eq_some_iff.1 hi'
    have hp := List.pairwise_iff_getElem.1 hn
    rcases Nat.lt_or_gt_of_ne hne with e | e
    · exact hp _ _ l1 l3 e (l2.trans l4.symm)
    · exact hp _ _ l3 l1 e (l4.trans l2.symm)
  · obtain ⟨i, _, h1⟩ := get j x hx
    exact h.nc cb e i _ h1 hb
theorem LX.pick {c : Option Nat} {H0 H : AH} {L : List Ix} (h : LX c H0 H L) (is : List Nat) (L' : List Ix) (hL : is.map (fun i => L[i]?) = L'.map some) (hn : is.Nodup) : LX c H0 H L' := by
  obtain ⟨B, h⟩ := h
  have get : ∀ (j : Nat) x, L'[j]? = some x → ∃ i, is[j]? = some i ∧ L[i]? = some x := fun j x hx => by
    have := congrArg (fun l => l[j]?) hL
    simp only [List.getElem?_map, hx, Option.map_some, Option.map_eq_some_iff] at this
    exact this
  refine ⟨B, fun j x hx => ?_, fun j x hx b hb => ?_, fun j k x y hne hx hy b e1 e2 => ?_, h.len, h.keep, h.b0, h.bl, h.cur, fun cb e j x hx hb => ?_⟩
  · obtain ⟨i, _, h1⟩ := get j x hx
    exact h.ok i _ h1
  · obtain ⟨i, _, h1⟩ := get j x hx
    exact h.fr i _ h1 b hb
  · obtain ⟨i, hi, h1⟩ := get j x hx
    obtain ⟨i', hi', h1'⟩ := get k y hy
    refine h.dj i i' _ _ ?_ h1 h1' b e1 e2
    rintro rfl
    obtain ⟨l1, l2⟩ := List.getElem?_eq_some_iff.1 hi
    obtain ⟨l3, l4⟩ := List.getElem?_eq_some_iff.1 hi'
    have hp := List.pairwise_iff_getElem.1 hn
    rcases Nat.lt_or_gt_of_ne hne with e | e
    · exact hp _ _ l1 l3 e (l2.trans l4.symm)
    · exact hp _ _ l3 l1 e (l4.trans l2.symm)
  · obtain ⟨i, _, h1⟩ := get j x hx
    exact h.nc cb e i _ h1 hb
theorem LX.out {H0 H : AH} {L : List Ix} {cb : Nat} (h : LX (some cb) H0 H L) (hb : H0.length ≤ cb) : LX none H0 H L := by
  obtain ⟨B, h⟩ := h
  exact ⟨B, h.ok, h.fr, h.dj, h.len, fun b hb2 _ => h.keep b hb2 (by simp; omega), fun b hb2 _ => h.b0 b hb2 (by simp; omega), fun b hb => ⟨(h.bl b hb).1, by simp⟩, fun _ e => by simp at e, fun _ e => by simp at e⟩
theorem LX.cursor {H0 H H' : AH} {L : List Ix} {cb : Nat} (h : LX none H0 H L) (hf : ∃ K, H' = H ++ K) (hc : Cur H' cb) (hb : H.length ≤ cb) : LX (some cb) H0 H' L := by
  obtain ⟨B, h1⟩ := h.extd hf
  obtain ⟨B2, h⟩ := h
  have hlen := ext_len hf
  obtain ⟨K, rfl⟩ := hf
  have h3 : LB B2 none H0 (H ++ K) L := h.grow (by simp) (fun b hb _ => List.getElem?_append_left hb) (fun g e => (h.cur g e).mono)
  refine ⟨B2, h3.ok, h3.fr, h3.dj, h3.len, fun b hb _ => h3.keep b hb (by simp), fun b hb _ => h3.b0 b hb (by simp), fun b hb2 => ⟨(h3.bl b hb2).1, fun e => ?_⟩, fun g e => by cases e; exact hc, fun g e i x hx h2 => ?_⟩
  · cases e
    have := (h.bl _ hb2).1; omega
  · cases e
    have := (h.ok i x hx).lt _ h2; omega
theorem LX.da {cb : Nat} {H0 H H' : AH} {L : List Ix} {p q : Value} {sh dt : List Int} (h : LX (some cb) H0 H L) (ha : DA H H' p q sh dt) (hf : Frm cb H H') : LX (some cb) H0 H' (.own (.row p sh) :: .own (.row q dt) :: L) := by
  obtain ⟨B, h⟩ := h
  have h2 : LB B (some cb) H0 H' (.own (.row q dt) :: L) := h.add hf.len (fun b hb hn => hf.keep b hb (by simpa using Ne.symm hn)) (fun g e => by cases e; exact hf.cur) ha.dt.own ha.dt.fr
  have h1 : LB B (some cb) H0 H' (.own (.row p sh) :: L) := h.add hf.len (fun b hb hn => hf.keep b hb (by simpa using Ne.symm hn)) (fun g e => by cases e; exact hf.cur) ha.sh.own ha.sh.fr
  refine ⟨B, ?_, ?_, ?_, h1.len, h1.keep, h1.b0, h1.bl, h1.cur, fun cb e => ?_⟩
  · rintro (_ | i) y hy
    · cases hy; exact ha.sh.own
    · exact h2.ok i y hy
  · rintro (_ | i) y hy b hb
    · cases hy; exact h1.fr 0 _ rfl b hb
    · exact h2.fr i y hy b hb
  · rintro (_ | _ | i) (_ | _ | j) y z hne hy hz b e1 e2
    · exact hne rfl
    · cases hy; cases hz; exact ha.dj b e1 e2
    · exact h1.dj 0 (j + 1) y z (by omega) hy hz b e1 e2
    · cases hy; cases hz; exact ha.dj b e2 e1
    · exact hne rfl
    · exact h2.dj 0 (j + 1) y z (by omega) hy hz b e1 e2
    · exact h1.dj (i + 1) 0 y z (by omega) hy hz b e1 e2
    · exact h2.dj (i + 1) 0 y z (by omega) hy hz b e1 e2
    · exact h1.dj (i + 1) (j + 1) y z (by omega) hy hz b e1 e2
  · rintro (_ | i) y hy
    · cases hy; exact h1.nc cb e 0 _ rfl
    · exact h2.nc cb e i y hy
theorem LX.ar {c : Option Nat} {H0 H : AH} {L : List Ix} {p q : Value} {sh dt : List Int} (h : LX c H0 H L) (i j : Nat) (hi : L[i]? = some (.own (.row p sh))) (hj : L[j]? = some (.own (.row q dt))) (l1 : sh.length ≤ 1048576) (l2 : dt.length ≤ 1048576) : AR H p q sh dt := ⟨h.int i hi, h.int j hj, l1, l2⟩
theorem LX.ans {H H' : AH} {L : List Ix} {p q : Value} {c : Int} {sh dt : List Int} {R : (List Int × List Int) × Int} (h : LX none H H' L) (i j : Nat) (hij : i ≠ j) (hi : L[i]? = some (.own (.row p sh))) (hj : L[j]? = some (.own (.row q dt))) (hR : R = ((sh, dt), c)) : Ans1 H H' (.tuple #[.agg #[p, q], .int .i64 c]) R := by
  subst hR
  exact ⟨_, _, rfl, h.give [i, j] (by simp [hij]) [.row p sh, .row q dt] (by simp [hi, hj])⟩
theorem LX.err {H H' : AH} {L : List Ix} {c : Int} {R : (List Int × List Int) × Int} (h : LX none H H' L) (hR : R = (([], []), c)) : Ans1 H H' (.tuple #[.agg #[.slice none 0 0, .slice none 0 0], .int .i64 c]) R :=
  (h.nil0.nil0).ans 0 1 (by decide) rfl rfl hR
/-- A row alone. -/
def AnsI (H H' : AH) (r : Value) (l : List Int) : Prop := LD none H H' [.row r l]
theorem LX.ansI {H H' : AH} {L : List Ix} {p : Value} {l m : List Int} (h : LX none H H' L) (i : Nat) (hi : L[i]? = some (.own (.row p l))) (hR : m = l) : AnsI H H' p m := by
  subst hR
  exact h.give [i] (by simp) [.row p m] (by simp [hi])
theorem cast0 : ((0 : Nat) : Int) = 0 := rfl
theorem st_box {c : Option Nat} {H0 H : AH} {L : List Ix} {Φ : Value → AH → Prop} {cs : List Value} (q : LX c H0 H L) (k : ∀ H', LX c H0 H' (.own (.box H.length cs) :: L) → Φ (.pointer (some ⟨H.length, 0, none⟩)) H') : oM (some (cs, none)) H Φ := k _ (q.box cs)
theorem st_lit {c : Option Nat} {H0 H : AH} {L : List Ix} {Φ : Value → AH → Prop} {cs : List Value} {n : Nat} (l : List Int) (he : cs = ints l) (hn : n = l.length) (q : LX c H0 H L) (k : ∀ H', LX c H0 H' (.own (.row (.slice (some ⟨H.length, 0, none⟩) n 1) l) :: L) → Φ (.slice (some ⟨H.length, 0, none⟩) n 1) H') : oM (some (cs, some (n, 1))) H Φ :=
  k _ (q.nrow (DR.lit l (Nat.le_refl _) he hn) ⟨_, rfl⟩)
theorem st_set {c : Option Nat} {H0 H : AH} {L : List Ix} {Φ : Value → AH → Prop} {b : Nat} {cs cs' : List Value} (q : LX c H0 H L) (i : Nat) (hi : L[i]? = some (.own (.box b cs))) (k : ∀ H', LX c H0 H' (L.set i (.own (.box b cs'))) → Φ undef H') : oS (some (H.set b ⟨cs', .own⟩)) Φ := k _ (q.set i hi cs')
theorem st_app {c : Option Nat} {H0 H : AH} {L : List Ix} {Φ : Value → AH → Prop} {v w : Value} {l m : List Int} (q : LX c H0 H L) (i : Nat) (hi : L[i]? = some (.own (.row v l))) (hw : IntRow H w m) (hl : l.length + m.length ≤ 1073741824)
    (k : ∀ a c' H', LX c H0 H' (L.set i (.own (.row (.slice a (l.length + m.length) c') (l ++ m)))) → Φ (.slice a (l.length + m.length) c') H') : oA (app 1 v w H) Φ :=
  oA_own (q.own i hi) hw hl fun a c' H' o x => k a c' H' (q.push i hi o x)
def Same : List Nat → Tm → Tm → Prop
  | [], _, _ => True
  | k :: ks, a, b => a k = b k ∧ Same ks a b
/-- A loop over a state; what is not turned in it stays. -/
theorem rW_loopQ {P : Program} {cd : KC} {s : List Fr} {Q : Post} {σ : Type} {tm : Tm} {H H0 : AH} {c : Option Nat} {L : List Ix} (q : LX c H0 H L) (live : List Nat) (A : σ → Tm → Prop) (J : σ → List Ix → List Ix) (μ : σ → Nat) (x : σ) (hA : A x tm) (hJ : J x L = L)
    (hs : ∀ x tm' H', Same live tm' tm → A x tm' → LX c H0 H' (J x L) → rW P cd [] (lpK P (fun tm'' H'' => ∃ y, μ y < μ x ∧ Same live tm'' tm' ∧ A y tm'' ∧ LX c H0 H'' (J y L)) s Q) tm' H') : rW P (.loop cd) s Q tm H := by
  have str : ∀ {a b d : Tm}, ∀ ks, Same ks a b → Same ks b d → Same ks a d := by
    intro a b d ks
    induction ks with
    | nil => exact fun _ _ => trivial
    | cons k ks ih => exact fun h1 h2 => ⟨h1.1.trans h2.1, ih h1.2 h2.2⟩
  have sr : ∀ {a : Tm}, ∀ ks, Same ks a a := by
    intro a ks
    induction ks with
    | nil => trivial
    | cons k ks ih => exact ⟨rfl, ih⟩
  refine rW_loop (σ := σ) (fun x tm' H' => Same live tm' tm ∧ A x tm' ∧ LX c H0 H' (J x L)) μ x ⟨sr live, hA, by rw [hJ]; exact q⟩ ?_
  rintro x tm' H' ⟨h1, h2, h3⟩
  refine kW_monoQ (fun ex tm'' H'' hh => ?_) (hs x tm' H' h1 h2 h3)
  cases ex with
  | normal =>
    obtain ⟨y, e1, e2, e3, e4⟩ := hh
    exact ⟨y, e1, str live e2 h1, e3, e4⟩
  | _ => exact hh
theorem st_q {c : Option Nat} {H0 H : AH} {L : List Ix} {Φ : Value → AH → Prop} (q : LX c H0 H L) (k : ∀ H', LX c H0 H' L → Φ undef H') : oS (some H) Φ := k _ q

/-- A number of a row that is held: its place; and the row with another number there. -/
theorem LX.wrI {c0 : Option Nat} {H0 H : AH} {L : List Ix} {a : Option Addr} {n c : Nat} {l : List Int} {k : Nat} (h : LX c0 H0 H L) (i : Nat) (hi : L[i]? = some (.own (.row (.slice a n c) l))) (hk : k < l.length) :
    ∃ b o cs, aIndexAddr Try.prog 24 (.slice a n c) (.int .i64 k) = some (.pointer (some ⟨b, o + k, none⟩)) ∧ wrt H b = some cs ∧ Go.Proofs.Ytpclegiocblpmaa.AM.rd H b = some cs ∧ o + k + 1 ≤ cs.length ∧ cs[o + k]? = some (.int .i64 l[k]) ∧ ∀ x, LX c0 H0 (H.set b ⟨cs.set (o + k) (.int .i64 x), .own⟩) (L.set i (.own (.row (.slice a n c) (l.set k x)))) := by
  obtain ⟨b, o, cs, e, h1, h2, h3, h4, h5⟩ := h.wr i hi hk
  injection e with e1 e2 e3
  subst e1; subst e2; subst e3
  refine ⟨b, o, cs, ?_, h1, h2, by omega, h4 k _ (List.getElem?_eq_getElem hk), h5⟩
  rw [ix24, if_pos (by omega)]
  simp

theorem rpBytes {P : Program} {H : AH} {t e : TypeId} {v : Value} (h : RpV P H t v) (hu : P.underlying t = some (.slice e)) (he : P.underlying e = some (.int .u8)) (hc : P.cellsOf e = 1) : ∃ a n c, v = .slice a n c ∧ BRow H a n c := by
  obtain ⟨k, vs, h, rfl⟩ := h
  rcases h.slice hu with rfl | ⟨b, n, cs, rfl, h2, h3, h4, k, h5⟩
  · exact ⟨none, 0, 0, by simp [mkV, hu], fun h => by omega⟩
  · rw [hc] at h3 h5
    refine ⟨_, n, 1, by simp [mkV, hu, hc], fun _ => ⟨b, 0, cs, rfl, rfl, h2, fun j hj => ?_⟩⟩
    obtain ⟨m, h6, h7⟩ := (h5 j hj).int he
    have h8 : cs[j]? = some (.int .u8 m) := by
      have := congrArg (fun l : List Value => l[0]?) h6
      simp only [List.getElem?_take_of_lt Nat.zero_lt_one, List.getElem?_drop, Nat.mul_one, Nat.add_zero, List.getElem?_cons_zero] at this
      exact this
    refine ⟨m, by rw [Nat.zero_add]; exact h8, ?_⟩
    have := h7
    simp [Lit.wf] at this
    have e1 : IntKind.u8.min = 0 := rfl
    have e2 : IntKind.u8.max = 255 := rfl
    omega
set_option maxHeartbeats 4000000 in
theorem sameInts_ok {H : AH} {v w : Value} {l m : List Int} (hv : IntRow H v l) (hw : IntRow H w m) (hl : l.length < 9223372036854775807) : CallsA Try.prog 44 #[v, w] H fun r H' => r = .bool (l == m) ∧ H' = H := by
  obtain ⟨a, c, rfl, gv⟩ := hv.op
  obtain ⟨a', c', rfl, gw⟩ := hw.op
  refine w44 ?_
  unfold k44
  simp -implicitDefEqProofs only [kz, kk0, kk1, kk2, kk3, ↓two_true, ↓two_false, oS_some, oM_some, mkv, aggAt, Nat.reduceLeDiff, Nat.reduceSub, Nat.reduceMul, implies_true, Nat.reduceEqDiff, reduceIte, Nat.reduceAdd, Nat.reduceBEq, reduceCtorEq, ix24, ld3, ln24]
  refine two_intro (fun h => ?_) (fun h => ?_)
  · have : (l == m) = false := by
      rw [beq_eq_false_iff_ne]
      rintro rfl
      simp at h
    rw [this]
  · have hlen : l.length = m.length := by simp at h; omega
    refine rW_loop (σ := Nat) (fun i tm H' => tm 0 = .slice a l.length c ∧ tm 1 = .slice a' m.length c' ∧ tm 5 = .int .i64 i ∧ H' = H ∧ i ≤ l.length ∧ ∀ j, j < i → l[j]? = m[j]?) (fun i => l.length - i) 0 ?_ ?_
    · simp -implicitDefEqProofs [kk0, kk1, kk2, kk3, rW_block, ↓two_true, ↓two_false, rW_cond, rO_guard, oS_some, oM_some, mkv, aggAt, Nat.reduceLeDiff, Nat.reduceSub, Nat.reduceMul, cond_true, cond_false, Option.bind_some, List.length_append, List.length_cons, List.length_nil, List.append_assoc, List.cons_append, List.nil_append, List.set_cons_zero, List.set_cons_succ, List.size_toArray, List.all_cons, List.all_nil, List.drop_zero, List.drop_succ_cons, List.take_succ_cons, List.take_zero, List.mem_cons, Prod.mk.injEq, List.not_mem_nil, implies_true, List.getElem?_toArray, List.getElem?_cons_zero, List.getElem?_cons_succ, List.getElem?_nil, Option.getD_some, Option.getD_none, Nat.reduceEqDiff, reduceIte, Nat.reduceAdd, List.map_toArray, List.map_cons, List.map_nil, Bool.false_eq_true, Nat.reduceBEq, Option.map_some, Option.map_none, reduceCtorEq, ix24, ld3, ln24]
    · rintro i tm H' ⟨h0, h1, h5, rfl, hi, hn⟩
      simp -implicitDefEqProofs only [kz, kk0, kk1, kk2, kk3, ↓two_true, ↓two_false, oS_some, oM_some, mkv, aggAt, Nat.reduceLeDiff, Nat.reduceSub, Nat.reduceMul, implies_true, Nat.reduceEqDiff, reduceIte, Nat.reduceAdd, Nat.reduceBEq, reduceCtorEq, ix24, ld3, ln24, h0, h1, h5]
      refine two_intro (fun hc => ?_) (fun hc => ?_)
      · have hc' : i < l.length := by simpa using hc
        have hc2 : i < m.length := by omega
        obtain ⟨b, o, cs, rfl, rfl, hrd, _, hcell⟩ := gv (by omega)
        obtain ⟨b', o', cs', rfl, rfl, hrd', _, hcell'⟩ := gw (by omega)
        simp -implicitDefEqProofs only [kz, kk0, kk1, kk2, kk3, ↓two_true, ↓two_false, oS_some, oM_some, mkv, aggAt, Nat.reduceLeDiff, Nat.reduceSub, Nat.reduceMul, implies_true, Nat.reduceEqDiff, reduceIte, Nat.reduceAdd, Nat.reduceBEq, reduceCtorEq, ix24, ld3, ln24, h0, h1, h5, Int.toNat_natCast, Nat.mul_one, hrd, hrd', hcell i hc', hcell' i hc2, IntWalk.i64_in (↑i + 1) (by omega)]
        refine ⟨⟨by omega, by omega⟩, ⟨by omega, by omega⟩, two_intro (fun h => ?_) (fun h => ?_)⟩
        · have : (l == m) = false := by
            rw [beq_eq_false_iff_ne]
            rintro rfl
            simp at h
          rw [this]
        · refine ⟨i + 1, by omega, by simp, hc', fun j hj => ?_⟩
          rcases Nat.lt_or_ge j i with h1 | h1
          · exact hn j h1
          · have : j = i := by omega
            subst this
            simpa [hc', hc2] using h
      · have hc' : ¬ i < l.length := by simpa using hc
        have : (l == m) = true := by
          rw [beq_iff_eq]
          refine List.ext_getElem? fun j => ?_
          rcases Nat.lt_or_ge j i with h1 | h1
          · exact hn j h1
          · rw [List.getElem?_eq_none (by omega), List.getElem?_eq_none (by omega)]
        rw [this]
theorem sizeI_one {n : Nat} (h : n ≤ 300) : sizeI [(n : Int)] = n := by
  have : inB (n : Int) 0 300 = true := by simp [inB]; omega
  simp [sizeI, prodI, this]
  omega
/-- The rows of an array that is right, of rank 1 and above. -/
def rowsR : List Int → List Int → List (List Int × List Int)
  | [], _ => []
  | x :: tl, da => (List.range x.toNat).map fun i => (tl, (da.drop (i * (sizeI tl).toNat)).take (sizeI tl).toNat)
/-- What Rows answers. -/
def rowsA (sa da : List Int) : List (List Int × List Int) := if arrOk sa da then rowsR sa da else []
def rowsV (rs : List (List Int × List Int)) : List CV := rs.flatMap fun r => [.r r.1, .r r.2]
theorem rowsV_len {rs : List (List Int × List Int)} : (rowsV rs).length = rs.length * 2 := by
  induction rs with
  | nil => rfl
  | cons r rs ih => simp only [rowsV, List.flatMap_cons, List.length_append, List.length_cons, List.length_nil] at ih ⊢; omega
theorem rowsV_snoc {rs : List (List Int × List Int)} {r : List Int × List Int} : rowsV (rs ++ [r]) = rowsV rs ++ [.r r.1, .r r.2] := by simp [rowsV]
theorem rowsV_get : ∀ {rs : List (List Int × List Int)} {i : Nat} (h : i < rs.length), (rowsV rs)[i * 2]? = some (.r rs[i].1) ∧ (rowsV rs)[i * 2 + 1]? = some (.r rs[i].2)
  | r :: rs, 0, _ => by simp [rowsV]
  | r :: rs, i + 1, h => by
    have h' : i < rs.length := by simpa using h
    obtain ⟨h1, h2⟩ := rowsV_get h'
    have e : rowsV (r :: rs) = .r r.1 :: .r r.2 :: rowsV rs := rfl
    refine ⟨?_, ?_⟩
    · rw [e, show (i + 1) * 2 = i * 2 + 1 + 1 by omega, List.getElem?_cons_succ, List.getElem?_cons_succ, h1]; rfl
    · rw [e, show (i + 1) * 2 + 1 = i * 2 + 1 + 1 + 1 by omega, List.getElem?_cons_succ, List.getElem?_cons_succ, h2]; rfl
/-- A row of arrays that may be read. -/
def RowsA (H : AH) (v : Value) (rs : List (List Int × List Int)) : Prop :=
  ∃ a c, v = .slice a rs.length c ∧ (0 < rs.length → ∃ b o cs, a = some ⟨b, o, none⟩ ∧ c = 2 ∧ rd H b = some cs ∧
    ∀ i (hi : i < rs.length), ∃ p q, cs[o + i * 2]? = some p ∧ cs[o + i * 2 + 1]? = some q ∧ IntRow H p rs[i].1 ∧ IntRow H q rs[i].2)
theorem RowsA.ext {H H' : AH} {v : Value} {rs : List (List Int × List Int)} (h : RowsA H v rs) (he : ∃ K, H' = H ++ K) : RowsA H' v rs := by
  obtain ⟨a, c, e, g⟩ := h
  refine ⟨a, c, e, fun h0 => ?_⟩
  obtain ⟨b, o, cs, e1, e2, h1, h2⟩ := g h0
  refine ⟨b, o, cs, e1, e2, rd_ext h1 he, fun i hi => ?_⟩
  obtain ⟨p, q, g1, g2, g3, g4⟩ := h2 i hi
  exact ⟨p, q, g1, g2, g3.ext he, g4.ext he⟩
theorem FRow.rows {H : AH} {v : Value} {n : Nat} {xs : List Value} {rs : List (List Int × List Int)} (h : FRow H v [.r, .r] n xs) (hv : cvs H xs = rowsV rs) : RowsA H v rs ∧ n = rs.length := by
  have hn : n = rs.length := by
    have := congrArg List.length hv
    have hl := h.len
    simp only [cvs, List.length_map, rowsV_len, List.length_cons, List.length_nil] at this hl
    omega
  subst hn
  obtain ⟨a, c, rfl, g⟩ := h.opn 2 rfl
  refine ⟨⟨a, c, rfl, fun h0 => ?_⟩, rfl⟩
  obtain ⟨b, o, cs, rfl, rfl, h1, h2, h3⟩ := g h0
  refine ⟨b, o, cs, rfl, rfl, h1, fun i hi => ?_⟩
  obtain ⟨h4, h5⟩ := h3 i hi
  obtain ⟨p, _, e, kp, q, _, rfl, kq, rfl⟩ := h.elemn 2 rfl hi
  rw [e] at h5
  obtain ⟨g1, g2⟩ := rowsV_get hi
  have e0 : (elm 2 xs i)[0]? = some p := by rw [e]; rfl
  have e1 : (elm 2 xs i)[1]? = some q := by rw [e]; rfl
  rw [elm_get (by omega)] at e0 e1
  rw [← hv] at g1 g2
  simp only [cvs, List.getElem?_map] at g1 g2
  rw [Nat.add_zero] at e0
  rw [e0, Option.map_some, cv_row kp.1] at g1
  rw [e1, Option.map_some, cv_row kq.1] at g2
  injection g1 with g1; injection g1 with g1
  injection g2 with g2; injection g2 with g2
  refine ⟨p, q, h5 0 p rfl, h5 1 q rfl, ?_, ?_⟩
  · rw [← g1]; exact kp.1
  · rw [← g2]; exact kq.1
/-- A part of a row. -/
theorem IntRow.sl {P : Program} {t e : TypeId} {H : AH} {a : Option Addr} {n c : Nat} {l : List Int} (ht : P.underlying t = some (.slice e)) (hs : szOf P e = some 1) (h : IntRow H (.slice a n c) l) {lo hi : Option Value} {x y : Nat}
    (hx : optInt 0 lo = some (x : Int)) (hy : optInt n hi = some (y : Int)) (hxy : x ≤ y) (hyn : y ≤ l.length) :
    ∃ a' c', aSlice P t (.slice a n c) lo hi = some (.slice a' (y - x) c') ∧ IntRow H (.slice a' (y - x) c') ((l.drop x).take (y - x)) ∧ (blkOf (.slice a' (y - x) c') = none ∨ blkOf (.slice a' (y - x) c') = blkOf (.slice a n c)) := by
  rcases h with ⟨e1, rfl⟩ | ⟨b, o, cs, e1, h2, h3, h4⟩
  · injection e1 with e1 e2 e3
    subst e1; subst e2; subst e3
    have : y = 0 := by simpa using hyn
    subst this
    obtain rfl : x = 0 := by omega
    refine ⟨none, 0, ?_, .inl ⟨rfl, rfl⟩, .inl rfl⟩
    rw [sln_eq ht hs, hx, hy]
    simp
  · injection e1 with e1 e2 e3
    subst e1; subst e2; subst e3
    have hlen : ((l.drop x).take (y - x)).length = y - x := by simp; omega
    refine ⟨some ⟨b, o + x, none⟩, 1, ?_, .inr ⟨b, o + x, cs, by rw [hlen], h2, by rw [hlen]; omega, ?_⟩, .inr rfl⟩
    · rw [slc_eq ht hs, hx, hy, slc_some, if_pos (by omega)]
      simp
    · rw [hlen]
      have : ints ((l.drop x).take (y - x)) = ((ints l).drop x).take (y - x) := by simp [ints]
      rw [this, ← h4, List.drop_take, List.take_take, List.drop_drop]
      rw [Nat.min_eq_left (by omega)]
theorem prodI_pos_le {x p : Int} (hx : 1 ≤ x) (hp : 0 ≤ p) : p ≤ x * p := by
  have := Int.mul_le_mul_of_nonneg_right hx hp
  omega
theorem prodI_nonneg : ∀ {l : List Int}, (l.all fun x => inB x 0 300) = true → 0 ≤ prodI l
  | [], _ => by decide
  | x :: l, h => by
    simp only [List.all_cons, Bool.and_eq_true] at h
    rw [prodI_cons]
    have h1 : 0 ≤ x := by have := h.1; simp [inB] at this; omega
    exact Int.mul_nonneg h1 (prodI_nonneg h.2)
set_option maxHeartbeats 4000000 in
theorem sizeI_ok {l : List Int} (h : 0 ≤ sizeI l) : l.length ≤ 3 ∧ (l.all fun x => inB x 0 300) = true ∧ sizeI l = prodI l := by
  unfold sizeI at h ⊢
  split at h
  · omega
  · rename_i h1
    split at h
    · rename_i h2
      split at h
      · omega
      · rename_i h3
        rw [if_neg h1, if_pos h2, if_neg h3]
        exact ⟨by omega, h2, rfl⟩
    · omega
theorem sizeI_of {l : List Int} (h1 : l.length ≤ 3) (h2 : (l.all fun x => inB x 0 300) = true) (h3 : prodI l ≤ 300) : sizeI l = prodI l := by
  unfold sizeI
  rw [if_neg (by omega), if_pos h2, if_neg (by omega)]
/-- The sizes of an array's rows. -/
theorem arrOk_rows {x : Int} {tl da : List Int} (h : arrOk (x :: tl) da = true) : ∃ n : Nat, x = n ∧ n ≤ 300 ∧ (0 < n → ∃ m : Nat, sizeI tl = m ∧ m ≤ 300 ∧ da.length = n * m) := by
  unfold arrOk at h
  simp only [Bool.and_eq_true, beq_iff_eq] at h
  obtain ⟨h1, h2, h3⟩ := sizeI_ok (l := x :: tl) (by omega)
  simp only [List.all_cons, Bool.and_eq_true, List.length_cons] at h1 h2
  have hx : 0 ≤ x ∧ x ≤ 300 := by have := h2.1; simp [inB] at this; omega
  refine ⟨x.toNat, by omega, by omega, fun h0 => ?_⟩
  have hp := prodI_nonneg h2.2
  rw [prodI_cons] at h3
  have hle := prodI_pos_le (x := x) (by omega) hp
  have hsz := sizeI_le (l := x :: tl)
  have ht := sizeI_of (l := tl) (by omega) h2.2 (by omega)
  refine ⟨(prodI tl).toNat, by omega, by omega, ?_⟩
  have e1 : ((x.toNat : Int)) = x := by omega
  have e2 : (((prodI tl).toNat : Int)) = prodI tl := by omega
  have : (da.length : Int) = ((x.toNat * (prodI tl).toNat : Nat) : Int) := by
    rw [Int.natCast_mul, e1, e2, h.1, h3]
  omega

/-- The place of a number in a row that may be read, and the number. -/
theorem ixI {H : AH} {a : Option Addr} {n c : Nat} {l : List Int} (h : IntRow H (.slice a n c) l) {i : Nat} (hi : i < l.length) : ∃ b o cs, aIndexAddr Try.prog 24 (.slice a n c) (.int .i64 i) = some (.pointer (some ⟨b, o + i, none⟩)) ∧ rd H b = some cs ∧ cs[o + i]? = some (.int .i64 l[i]) := by
  obtain ⟨e, b, o, cs, rfl, rfl, h1, h2⟩ := h.cells hi
  subst e
  refine ⟨b, o, cs, ?_, h1, h2⟩
  rw [ix24, if_pos (by omega)]
  simp
theorem ixI0 {H : AH} {a : Option Addr} {n c : Nat} {l : List Int} {x : Int} (h : IntRow H (.slice a n c) l) (hx : l[0]? = some x) : ∃ b o cs, aIndexAddr Try.prog 24 (.slice a n c) (.int .i64 0) = some (.pointer (some ⟨b, o, none⟩)) ∧ rd H b = some cs ∧ cs[o]? = some (.int .i64 x) := by
  obtain ⟨h0, rfl⟩ := List.getElem?_eq_some_iff.1 hx
  obtain ⟨b, o, cs, h1, h2, h3⟩ := ixI h h0
  exact ⟨b, o, cs, h1, h2, h3⟩

theorem rowsR_len {x : Int} {tl da : List Int} {n : Nat} (h : x = n) : (rowsR (x :: tl) da).length = n := by simp [rowsR, h]
theorem rowsR_get {x : Int} {tl da : List Int} {n m i : Nat} (h : x = n) (hm : sizeI tl = m) (hi : i < n) : (rowsR (x :: tl) da)[i]? = some (tl, (da.drop (i * m)).take m) := by
  simp [rowsR, h, hm, hi]
theorem New.back {H0 H1 H : AH} {v : Value} {ks : List CK} {n : Nat} {ys : List Value} (h : New H1 H v ks n ys) (hl : H0.length ≤ H1.length) : New H0 H v ks n ys := ⟨h.ot, fun b hb => Nat.le_trans hl (h.fr b hb)⟩
/-- One array more behind a row of arrays. -/
theorem take_snoc {rs : List (List Int × List Int)} {i : Nat} {r : List Int × List Int} (h : rs[i]? = some r) : rowsV (rs.take (i + 1)) = rowsV (rs.take i) ++ [.r r.1, .r r.2] := by
  obtain ⟨h1, h2⟩ := List.getElem?_eq_some_iff.1 h
  rw [List.take_succ_eq_append_getElem h1, h2, rowsV_snoc]

set_option maxHeartbeats 4000000 in
theorem implRows_ok {H : AH} {pa qa : Value} {sa da : List Int} (a : AR H pa qa sa da) : CallsA Try.prog 39 #[.agg #[pa, qa]] H fun r H' => (∃ ys, New H H' r [.r, .r] (rowsA sa da).length ys ∧ cvs H' ys = rowsV (rowsA sa da)) ∧ ∃ K, H' = H ++ K := by
  have al := a.lim
  obtain ⟨a1, c1, a2, c2, rfl, rfl⟩ := a.o1
  refine w39 ?_
  unfold k39
  have q := (LD.nil (H := H)).box [.slice a1 sa.length c1, .slice a2 da.length c2]
  simp -implicitDefEqProofs only [kz, kk0, kk1, kk2, kk3, ↓two_true, ↓two_false, oS_some, oM_some, mkv, aggAt, Nat.reduceLeDiff, Nat.reduceSub, Nat.reduceMul, implies_true, Nat.reduceEqDiff, reduceIte, Nat.reduceAdd, Nat.reduceBEq, reduceCtorEq, ap62_62, bd26, bs62_1, fa26_0, fa26_1, ix24, ld3, ld24, ld26, ln24, sn24, sl24] at q ⊢
  unfold rowsA
  refine (implOk_ar (a.ext q.ext)).mono ?_
  rintro _ H1 ⟨rfl, he⟩
  have q := q.extd he
  clear he
  simp -implicitDefEqProofs only [kz, kk0, kk1, kk2, kk3, ↓two_true, ↓two_false, oS_some, oM_some, mkv, aggAt, Nat.reduceLeDiff, Nat.reduceSub, Nat.reduceMul, implies_true, Nat.reduceEqDiff, reduceIte, Nat.reduceAdd, Nat.reduceBEq, reduceCtorEq, ap62_62, bd26, bs62_1, fa26_0, fa26_1, ix24, ld3, ld24, ld26, ln24, sn24, sl24, (q.rd 0 rfl).1]
  have nil0 : ∀ rs : List (List Int × List Int), rs = [] → (∃ ys, New H H1 (.slice none 0 0) [.r, .r] rs.length ys ∧ cvs H1 ys = rowsV rs) ∧ ∃ K, H1 = H ++ K := fun rs e => by
    subst e; exact ⟨⟨[], New.nil, rfl⟩, q.ext⟩
  refine two_intro (fun u => ?_) (fun u => two_intro (fun u2 => ?_) (fun u2 => ?_))
  · exact nil0 _ (by rw [show arrOk sa da = false by simpa using u]; rfl)
  · refine nil0 _ ?_
    have : sa = [] := by simpa using u2
    rw [this]; simp [rowsR]
  have ok : arrOk sa da = true := by simpa using u
  rw [ok, if_pos rfl]
  have hne : sa ≠ [] := by rintro rfl; simp at u2
  obtain ⟨x, tl, hsa⟩ := List.exists_cons_of_ne_nil hne
  have ok' := ok
  rw [hsa] at ok'
  obtain ⟨n, rfl, hn3, hm0⟩ := arrOk_rows ok'
  have ax := (a.ext q.ext).os
  obtain ⟨t1, y1, ev1, hv1, -⟩ := IntRow.sl (P := Try.prog) (t := 24) (e := 3) (lo := some (.int .i64 1)) (hi := none) (x := 1) (y := sa.length) Try.underlying24 (by kernel_rfl) ax rfl rfl (by rw [hsa]; simp) (Nat.le_refl _)
  have e1 : (sa.drop 1).take (sa.length - 1) = tl := by rw [hsa]; simp
  have e2 : sa.length - 1 = tl.length := by rw [hsa]; simp
  have tl4 : tl.length < 4611686018427387904 := by omega
  rw [e1, e2] at hv1
  rw [e2] at ev1
  have es := fun Φ => (implSizeOf_ok hv1 tl4).eq0 (Φ := Φ)
  have hrl : (rowsR sa da).length = n := by rw [hsa]; exact rowsR_len rfl
  simp -implicitDefEqProofs only [kz, kk0, kk1, kk2, kk3, ↓two_true, ↓two_false, oS_some, oM_some, mkv, aggAt, Nat.reduceLeDiff, Nat.reduceSub, Nat.reduceMul, implies_true, Nat.reduceEqDiff, reduceIte, Nat.reduceAdd, Nat.reduceBEq, reduceCtorEq, ap62_62, bd26, bs62_1, fa26_0, fa26_1, ix24, ld3, ld24, ld26, ln24, sn24, sl24, (q.rd 0 rfl).1, ev1, es]
  refine rW_loop (σ := Nat × Option Addr × Nat × List Value) (fun (i, a', c', ys) tm H' => tm 1 = .pointer (some ⟨H.length, 0, none⟩) ∧ tm 3 = .int .i64 (sizeI tl) ∧ tm 4 = .slice a' i c' ∧ tm 5 = .int .i64 i ∧ i ≤ n ∧
    New H1 H' (.slice a' i c') [.r, .r] i ys ∧ cvs H' ys = rowsV ((rowsR sa da).take i) ∧ ∃ K, H' = H1 ++ K) (fun (i, _) => n - i) (0, none, 0, []) ?_ ?_
  · exact ⟨rfl, rfl, rfl, rfl, Nat.zero_le _, New.nil, rfl, ext_refl⟩
  · rintro ⟨i, a', c', ys⟩ tm H2 ⟨h1, h3, h4, h5, hi, hnw, hcv, he⟩
    have g0 := rd_ext (q.rd 0 rfl).1 he
    have he0 := ext_trans q.ext he
    have a2' := a.ext he0
    obtain ⟨b9, o9, cs9, ei9, hrd, hc0⟩ := ixI0 a2'.os (x := (n : Int)) (by rw [hsa]; rfl)
    simp -implicitDefEqProofs only [kz, kk0, kk1, kk2, kk3, ↓two_true, ↓two_false, oS_some, oM_some, mkv, aggAt, Nat.reduceLeDiff, Nat.reduceSub, Nat.reduceMul, implies_true, Nat.reduceEqDiff, reduceIte, Nat.reduceAdd, Nat.reduceBEq, reduceCtorEq, ap62_62, bd26, bs62_1, fa26_0, fa26_1, ix24, ld3, ld24, ld26, ln24, sn24, sl24, h1, h3, h4, h5, g0, ei9, hrd, hc0]
    refine two_intro (fun hc => ?_) (fun hc => ?_)
    · have hlt : i < n := by simpa using hc
      obtain ⟨m, hm, hm3, hdl⟩ := hm0 (by omega)
      have hb1 : (i + 1) * m ≤ n * m := Nat.mul_le_mul_right m hlt
      have hb2 : (i + 1) * m = i * m + m := by rw [Nat.add_mul, Nat.one_mul]
      have hdl3 := arrOk_len ok
      have w1 : IntKind.i64.wrap ((i : Int) * (m : Int)) = ((i * m : Nat) : Int) := by rw [← Int.natCast_mul, IntWalk.i64_in _ (by omega)]
      have w2 : IntKind.i64.wrap ((i : Int) + 1) = ((i + 1 : Nat) : Int) := by rw [IntWalk.i64_in _ (by omega)]; rfl
      have w3 : IntKind.i64.wrap (((i + 1 : Nat) : Int) * (m : Int)) = (((i + 1) * m : Nat) : Int) := by rw [← Int.natCast_mul, IntWalk.i64_in _ (by omega)]
      obtain ⟨t2, y2, ev2, hv2, -⟩ := IntRow.sl (P := Try.prog) (t := 24) (e := 3) (lo := some (.int .i64 ((i * m : Nat) : Int))) (hi := some (.int .i64 (((i + 1) * m : Nat) : Int))) (x := i * m) (y := (i + 1) * m) Try.underlying24 (by kernel_rfl) a2'.od rfl rfl (by omega) (by omega)
      have e3 : (i + 1) * m - i * m = m := by omega
      rw [e3] at ev2 hv2
      have hv1' := hv1.ext he
      have hdm : ((da.drop (i * m)).take m).length = m := by simp; omega
      obtain ⟨D, hD⟩ : ∃ D, (da.drop (i * m)).take m = D := ⟨_, rfl⟩
      have hlr : (rowsR sa da)[i]? = some (tl, (da.drop (i * m)).take m) := by rw [hsa]; exact rowsR_get rfl hm hlt
      rw [hD] at hdm hv2 hlr
      simp -implicitDefEqProofs only [kz, kk0, kk1, kk2, kk3, ↓two_true, ↓two_false, oS_some, oM_some, mkv, aggAt, Nat.reduceLeDiff, Nat.reduceSub, Nat.reduceMul, implies_true, Nat.reduceEqDiff, reduceIte, Nat.reduceAdd, Nat.reduceBEq, reduceCtorEq, ap62_62, bd26, bs62_1, fa26_0, fa26_1, ix24, ld3, ld24, ld26, ln24, sn24, sl24, h1, h3, h4, h5, g0, ev1, hm, w1, w2, w3, ev2]
      have ac : AR H2 (.slice t1 tl.length y1) (.slice t2 m y2) tl D := ⟨hv1', hv2, by have := a.l1; omega, by omega⟩
      refine (copyA_ok ac).mono ?_
      rintro _ H3 ⟨p', q', rfl, g⟩
      simp only at g
      obtain ⟨a3, c3, e5⟩ := (g.own 0 rfl).isSlice
      obtain ⟨a4, c4, e6⟩ := (g.own 1 rfl).isSlice
      have r1 := (g.own 0 rfl).kok (by have := a.l1; omega)
      have r2 := (g.own 1 rfl).kok (by omega)
      have f1 := g.fr 0 _ rfl
      have f2 := g.fr 1 _ rfl
      have dj := g.dj 0 1 _ _ (by decide) rfl rfl
      simp only [It.bs] at f1 f2 dj
      subst e5; subst e6
      simp -implicitDefEqProofs only [kz, kk0, kk1, kk2, kk3, ↓two_true, ↓two_false, oS_some, oM_some, mkv, aggAt, Nat.reduceLeDiff, Nat.reduceSub, Nat.reduceMul, implies_true, Nat.reduceEqDiff, reduceIte, Nat.reduceAdd, Nat.reduceBEq, reduceCtorEq, ap62_62, bd26, bs62_1, fa26_0, fa26_1, ix24, ld3, ld24, ld26, ln24, sn24, sl24, h1, h3, h4, h5]
      refine oA_newn 2 rfl hnw g.ext ⟨_, _, rfl, r1.1, _, _, rfl, r2.1, rfl⟩ ?_ ?_ (pw_get (by simp; exact dj)) (ext_len he) (by omega) fun b' H4 f3 x3 v3 => ?_
      · simp; exact ⟨r1.2.1, r2.2.1⟩
      · simp only [List.mem_cons, List.not_mem_nil, or_false]
        rintro y (rfl | rfl) b hb
        · exact f1 b hb
        · exact f2 b hb
      · have he4 := x3.ext (H0 := H1) (ext_trans he g.ext) hnw.blk
        · simp -implicitDefEqProofs only [kz, kk0, kk1, kk2, kk3, ↓two_true, ↓two_false, oS_some, oM_some, mkv, aggAt, Nat.reduceLeDiff, Nat.reduceSub, Nat.reduceMul, implies_true, Nat.reduceEqDiff, reduceIte, Nat.reduceAdd, Nat.reduceBEq, reduceCtorEq, ap62_62, bd26, bs62_1, fa26_0, fa26_1, ix24, ld3, ld24, ld26, ln24, sn24, sl24, h1, h3, h4, h5, w2]
          refine ⟨(i + 1, _, _, _), by simp only; omega, by rw [hm], rfl, rfl, hlt, f3, ?_, he4⟩
          rw [v3, hcv, take_snoc hlr]
          simp only [List.map_cons, List.map_nil, r1.2.2, r2.2.2]
    · have hil : i = n := Nat.le_antisymm hi (Nat.not_lt.1 (by simpa using hc))
      subst hil
      refine ⟨⟨ys, ?_, ?_⟩, he0⟩
      · rw [hrl]; exact hnw.back (ext_len q.ext)
      · rw [hcv, List.take_of_length_le (by omega)]

theorem LD.ncmp {c : Option Nat} {H0 H H' : AH} {L : List It} {v : Value} {ks : List CK} {n : Nat} {ys : List Value} {V : List CV} (h : LD c H0 H L) (hv : New H H' v ks n ys) (hV : cvs H' ys = V) (hf : ∃ K, H' = H ++ K) : LD c H0 H' (.cmp (.row v ks n ys) V :: L) := by
  obtain ⟨K, rfl⟩ := hf
  exact h.add (by simp) (fun b hb _ => List.getElem?_append_left hb) (fun g e => (h.cur g e).mono) ⟨hv.ot, hV⟩ fun b hb => hv.fr b hb
theorem LD.rows {c : Option Nat} {H0 H : AH} {L : List It} {v : Value} {n : Nat} {ys : List Value} {rs : List (List Int × List Int)} (h : LD c H0 H L) (i : Nat) (hi : L[i]? = some (.cmp (.row v [.r, .r] n ys) (rowsV rs))) : RowsA H v rs ∧ n = rs.length := by
  obtain ⟨h1, h2⟩ := h.ok i _ hi
  exact FRow.rows (OT.frow h1) h2
theorem LD.concat {c : Option Nat} {H0 H H' : AH} {L : List It} {v : Value} {l : List Int} (h : LD c H0 H L) (ho : OwnRow H' v l) (hf : ∀ b, blkOf v = some b → H.length ≤ b) (he : ∃ K, H' = H ++ K) : LD c H0 H' (.row v l :: L) := h.nrow ⟨ho, hf⟩ he

theorem ldA2 {o : Nat} {cs : List Value} {p q : Value} (h1 : cs[o]? = some p) (h2 : cs[o + 1]? = some q) : ld Try.prog 26 o cs = some (.agg #[p, q]) := by
  have l2 := (List.getElem?_eq_some_iff.1 h2).1
  rw [show ld Try.prog 26 o cs = aggAt 2 o cs from ld_agg (by kernel_rfl) (by kernel_rfl)]
  exact aggAt_row (x := [p, q]) rfl (by omega) fun j y hy => by
    match j with
    | 0 => simp at hy; subst hy; exact h1
    | 1 => simp at hy; subst hy; exact h2
    | j + 2 => simp at hy
/-- The place of an array in a row of arrays, and the array. -/
theorem ixR {H : AH} {a : Option Addr} {n c : Nat} {rs : List (List Int × List Int)} (h : RowsA H (.slice a n c) rs) {i : Nat} (hi : i < rs.length) : ∃ b o cs p q, aIndexAddr Try.prog 62 (.slice a n c) (.int .i64 i) = some (.pointer (some ⟨b, o + i * 2, none⟩)) ∧ rd H b = some cs ∧ cs[o + i * 2]? = some p ∧ cs[o + i * 2 + 1]? = some q ∧ IntRow H p rs[i].1 ∧ IntRow H q rs[i].2 := by
  obtain ⟨a', c', e, g⟩ := h
  injection e with e1 e2 e3
  subst e1; subst e2; subst e3
  obtain ⟨b, o, cs, rfl, rfl, h1, h2⟩ := g (by omega)
  obtain ⟨p, q, h3, h4, h5, h6⟩ := h2 i hi
  refine ⟨b, o, cs, p, q, ?_, h1, h3, h4, h5, h6⟩
  rw [ix62, if_pos (by omega)]
  simp
def idxP (n x : Int) : Int := if x < 0 then x + n else x
def pickD (n : Int) (rs : List (List Int × List Int)) (l : List Int) : List Int := l.flatMap fun x => ((rs[(idxP n x).toNat]?).getD ([], [])).2
def pickR (sa da sb db : List Int) : (List Int × List Int) × Int :=
  if arrOk sa da && arrOk sb db then
    (if sb.length = 0 ∨ sa.length + sb.length - 1 > 3 then (([], []), 4)
    else if (da.all fun x => inB (idxP (sb.headD 0) x) 0 (sb.headD 0 - 1)) = true then
      (if sizeI (sa ++ sb.tail) < 0 then (([], []), 6) else ((sa ++ sb.tail, pickD (sb.headD 0) (rowsR sb db) da), 0))
    else (([], []), 5))
  else (([], []), 1)
theorem pickD_snoc {n : Int} {rs : List (List Int × List Int)} {l : List Int} {x : Int} : pickD n rs (l ++ [x]) = pickD n rs l ++ ((rs[(idxP n x).toNat]?).getD ([], [])).2 := by simp [pickD]
theorem prodI_append {l m : List Int} : prodI (l ++ m) = prodI l * prodI m := by
  induction l with
  | nil => simp [prodI]
  | cons x l ih => rw [List.cons_append, prodI_cons, prodI_cons, ih, Int.mul_assoc]
theorem rowsR_len' {sb db : List Int} (h : arrOk sb db = true) (hne : sb ≠ []) : ((rowsR sb db).length : Int) = sb.headD 0 := by
  obtain ⟨x, tl, rfl⟩ := List.exists_cons_of_ne_nil hne
  obtain ⟨n, rfl, -, -⟩ := arrOk_rows h
  rw [rowsR_len rfl]; rfl
/-- The rows' numbers. -/
theorem rowsR_row {sb db : List Int} (h : arrOk sb db = true) {i : Nat} {r : List Int × List Int} (hr : (rowsR sb db)[i]? = some r) : r.1 = sb.tail ∧ 0 ≤ sizeI sb.tail ∧ (r.2.length : Int) = sizeI sb.tail ∧ r.2.all numOk = true ∧ r.2.length ≤ 300 := by
  cases sb with
  | nil => simp [rowsR] at hr
  | cons x tl =>
    obtain ⟨n, rfl, hn3, hm0⟩ := arrOk_rows h
    have hi := (List.getElem?_eq_some_iff.1 hr).1
    rw [rowsR_len rfl] at hi
    obtain ⟨m, hm, hm3, hdl⟩ := hm0 (by omega)
    rw [rowsR_get rfl hm hi] at hr
    cases hr
    have hb1 : (i + 1) * m ≤ n * m := Nat.mul_le_mul_right m hi
    have hb2 : (i + 1) * m = i * m + m := by rw [Nat.add_mul, Nat.one_mul]
    have hd : ((db.drop (i * m)).take m).length = m := by simp; omega
    refine ⟨rfl, by simp only [List.tail_cons]; omega, by simp only [List.tail_cons]; rw [hm, hd], ?_, by simp only; omega⟩
    unfold arrOk at h
    simp only [Bool.and_eq_true] at h
    rw [List.all_eq_true] at h ⊢
    exact fun y hy => h.2 y (List.mem_of_mem_drop (List.mem_of_mem_take hy))
theorem pickD_all {n : Int} {sb db l : List Int} (h : arrOk sb db = true) : (pickD n (rowsR sb db) l).all numOk = true := by
  rw [List.all_eq_true]
  intro y hy
  obtain ⟨x, hx, hy⟩ := List.mem_flatMap.1 hy
  cases hr : (rowsR sb db)[(idxP n x).toNat]? with
  | none => rw [hr] at hy; simp at hy
  | some r =>
    rw [hr] at hy
    exact List.all_eq_true.1 (rowsR_row h hr).2.2.2.1 y hy
theorem pickD_len {sb db : List Int} (h : arrOk sb db = true) (hne : sb ≠ []) : ∀ {l : List Int}, (l.all fun x => inB (idxP (sb.headD 0) x) 0 (sb.headD 0 - 1)) = true → ((pickD (sb.headD 0) (rowsR sb db) l).length : Int) = l.length * sizeI sb.tail
  | [], _ => by simp [pickD]
  | x :: l, hl => by
    simp only [List.all_cons, Bool.and_eq_true] at hl
    have hn := rowsR_len' h hne
    have hx : 0 ≤ idxP (sb.headD 0) x ∧ idxP (sb.headD 0) x ≤ sb.headD 0 - 1 := by simpa [inB] using hl.1
    have hi : (idxP (sb.headD 0) x).toNat < (rowsR sb db).length := by omega
    have h1 := pickD_len h hne hl.2
    obtain ⟨_, _, h2, _⟩ := rowsR_row h (List.getElem?_eq_getElem hi)
    have e : pickD (sb.headD 0) (rowsR sb db) (x :: l) = (rowsR sb db)[(idxP (sb.headD 0) x).toNat].2 ++ pickD (sb.headD 0) (rowsR sb db) l := by
      simp only [pickD, List.flatMap_cons, List.getElem?_eq_getElem hi, Option.getD_some]
    rw [e, List.length_append, Int.natCast_add, h1, h2, List.length_cons, Int.natCast_add, Int.add_mul]
    omega
set_option maxHeartbeats 4000000 in
/-- What is picked is an array that is right where its shape is. -/
theorem pick_ok {sa da sb db : List Int} (h1 : arrOk sa da = true) (h2 : arrOk sb db = true) (hne : sb ≠ []) (hx : (da.all fun x => inB (idxP (sb.headD 0) x) 0 (sb.headD 0 - 1)) = true) :
    arrOk (sa ++ sb.tail) (pickD (sb.headD 0) (rowsR sb db) da) = decide (0 ≤ sizeI (sa ++ sb.tail)) := by
  have hl := pickD_len h2 hne hx
  have ha := pickD_all (n := sb.headD 0) (l := da) h2
  unfold arrOk
  rw [ha, Bool.and_true]
  have hsa : (da.length : Int) = sizeI sa := by unfold arrOk at h1; simp at h1; exact h1.1
  obtain ⟨_, s2, s3⟩ := sizeI_ok (l := sa) (by omega)
  by_cases hs : 0 ≤ sizeI (sa ++ sb.tail)
  · rw [decide_eq_true hs, beq_iff_eq, hl]
    obtain ⟨g1, g2, g3⟩ := sizeI_ok hs
    rw [g3, prodI_append, ← s3, hsa]
    cases hda : da with
    | nil =>
      have : sizeI sa = 0 := by rw [← hsa, hda]; rfl
      rw [this]; simp
    | cons x l =>
      rw [hda] at hx
      simp only [List.all_cons, Bool.and_eq_true] at hx
      have hx0 : 0 ≤ idxP (sb.headD 0) x ∧ idxP (sb.headD 0) x ≤ sb.headD 0 - 1 := by simpa [inB] using hx.1
      obtain ⟨y, tl, rfl⟩ := List.exists_cons_of_ne_nil hne
      obtain ⟨n, rfl, hn3, hm0⟩ := arrOk_rows h2
      simp only [List.headD_cons] at hx0
      obtain ⟨m, hm, _⟩ := hm0 (by omega)
      obtain ⟨_, _, s4⟩ := sizeI_ok (l := tl) (by omega)
      simp only [List.tail_cons]
      rw [s4]
  · rw [decide_eq_false hs, beq_eq_false_iff_ne]
    omega

set_option maxHeartbeats 4000000 in
theorem implPick_ok {H : AH} {pa qa pb qb : Value} {sa da sb db : List Int} (a : AR H pa qa sa da) (b : AR H pb qb sb db) : CallsA Try.prog 14 #[.agg #[pa, qa], .agg #[pb, qb]] H fun r H' => Ans1 H H' r (pickR sa da sb db) := by
  have al := a.lim
  have bl := b.lim
  obtain ⟨a1, c1, a2, c2, rfl, rfl⟩ := a.o1
  obtain ⟨b1, d1, b2, d2, rfl, rfl⟩ := b.o1
  refine w14 ?_
  unfold k14
  have q := (LD.nil (H := H)).box [.slice a1 sa.length c1, .slice a2 da.length c2] |>.box [.slice b1 sb.length d1, .slice b2 db.length d2] |>.box [.slice none 0 0, .slice none 0 0]
  simp -implicitDefEqProofs only [kz, kk0, kk1, kk2, kk3, ↓two_true, ↓two_false, oS_some, oM_some, mkv, aggAt, Nat.reduceLeDiff, Nat.reduceSub, Nat.reduceMul, implies_true, Nat.reduceEqDiff, reduceIte, Nat.reduceAdd, Nat.reduceBEq, reduceCtorEq, al26, ap24_24, bd26, bs89_2, fa26_0, fa26_1, ix24, ix62, ld3, ld24, ld26, ln24, ln62, sn24, sl24, st24, st26] at q ⊢
  unfold pickR
  refine (implOk_ar (a.ext q.ext)).mono ?_
  rintro _ H1 ⟨rfl, he⟩
  have q := q.extd he
  clear he
  have e1 := (q.rd 0 rfl).2
  have e2 := fun k => rd_own (set_at (k' := ⟨k, .own⟩) (q.ok 0 _ rfl))
  have e3 := (q.rd 1 rfl).1
  have e4 := (q.rd 2 rfl).1
  simp -implicitDefEqProofs only [kz, kk0, kk1, kk2, kk3, ↓two_true, ↓two_false, oS_some, oM_some, mkv, aggAt, Nat.reduceLeDiff, Nat.reduceSub, Nat.reduceMul, implies_true, Nat.reduceEqDiff, reduceIte, Nat.reduceAdd, Nat.reduceBEq, reduceCtorEq, al26, ap24_24, bd26, bs89_2, fa26_0, fa26_1, ix24, ix62, ld3, ld24, ld26, ln24, ln62, sn24, sl24, st24, st26, e1, e2, e3, e4]
  refine two_intro (fun u => ?_) (fun u => ?_)
  · rw [show arrOk sa da = false by simpa using u]
    exact Ans1.err (q.set 0 rfl _)
  have v1 : arrOk sa da = true := by simpa using u
  rw [v1]
  clear u
  refine (implOk_ar (b.ext q.ext)).mono ?_
  rintro _ H2 ⟨rfl, he⟩
  have q := q.extd he
  clear he
  have e1 := (q.rd 0 rfl).2
  have e2 := fun k => rd_own (set_at (k' := ⟨k, .own⟩) (q.ok 0 _ rfl))
  have e3 := (q.rd 1 rfl).1
  have e4 := (q.rd 2 rfl).1
  simp -implicitDefEqProofs only [kz, kk0, kk1, kk2, kk3, ↓two_true, ↓two_false, oS_some, oM_some, mkv, aggAt, Nat.reduceLeDiff, Nat.reduceSub, Nat.reduceMul, implies_true, Nat.reduceEqDiff, reduceIte, Nat.reduceAdd, Nat.reduceBEq, reduceCtorEq, al26, ap24_24, bd26, bs89_2, fa26_0, fa26_1, ix24, ix62, ld3, ld24, ld26, ln24, ln62, sn24, sl24, st24, st26, e1, e2, e3, e4]
  refine two_intro (fun u => ?_) (fun u => ?_)
  · rw [show arrOk sb db = false by simpa using u]
    exact Ans1.err (q.set 0 rfl _)
  have v2 : arrOk sb db = true := by simpa using u
  rw [v2]
  clear u
  rw [if_pos (show (true && true) = true from rfl)]
  have w1 : IntKind.i64.wrap (↑sa.length + ↑sb.length) = ↑sa.length + ↑sb.length := IntWalk.i64_in _ (by have := a.l1; have := b.l1; omega)
  have w2 : IntKind.i64.wrap (↑sa.length + ↑sb.length - 1) = ↑sa.length + ↑sb.length - 1 := IntWalk.i64_in _ (by have := a.l1; have := b.l1; omega)
  have w3 : IntKind.i64.wrap (IntKind.i64.wrap (↑sa.length + ↑sb.length) - 1) = ↑sa.length + ↑sb.length - 1 := by rw [w1, w2]
  refine two_intro (fun u => ?_) (fun u => two_intro (fun u2 => ?_) (fun u2 => ?_))
  · rw [if_pos (show sb.length = 0 ∨ sa.length + sb.length - 1 > 3 from .inl (by simpa using u))]
    exact Ans1.err (q.set 0 rfl _)
  · have u2 := of_decide_eq_true u2
    rw [w3] at u2
    rw [if_pos (show sb.length = 0 ∨ sa.length + sb.length - 1 > 3 from .inr (by have := beq_eq_false_iff_ne.1 u; omega))]
    exact Ans1.err (q.set 0 rfl _)
  have u2 := of_decide_eq_false u2
  rw [w3] at u2
  have hr : ¬ (sb.length = 0 ∨ sa.length + sb.length - 1 > 3) := by have := beq_eq_false_iff_ne.1 u; omega
  have hne : sb ≠ [] := by rintro rfl; simp at hr
  rw [if_neg hr]
  have hsl : sa.length ≤ 3 ∧ sb.length ≤ 4 := by omega
  clear u u2
  refine (implRows_ok (b.ext q.ext)).mono ?_
  rintro v H3 ⟨⟨ys, hnw, hcv⟩, he⟩
  rw [show rowsA sb db = rowsR sb db by unfold rowsA; rw [v2]; rfl] at hnw hcv
  have q := q.ncmp hnw hcv he
  obtain ⟨rs, hrs⟩ : ∃ rs, rowsR sb db = rs := ⟨_, rfl⟩
  have hpick := pick_ok (da := da) v1 v2 hne
  have hrl := rowsR_len' v2 hne
  have hrow := fun (i : Nat) r (h : (rowsR sb db)[i]? = some r) => (rowsR_row v2 h)
  rw [hrs] at q hpick hrl hrow ⊢
  clear hnw hcv he e1 e2 e3 e4
  obtain ⟨ra, rc, rfl, -⟩ := (q.rows 0 rfl).1
  obtain ⟨x, tl, hsb⟩ := List.exists_cons_of_ne_nil hne
  have e2 : sb.length - 1 = tl.length := by rw [hsb]; simp
  have htl : sb.tail = tl := by rw [hsb]; rfl
  obtain ⟨t1, y1, ev1, hv1, -⟩ := IntRow.sl (P := Try.prog) (t := 24) (e := 3) (lo := some (.int .i64 1)) (hi := none) (x := 1) (y := sb.length) Try.underlying24 (by kernel_rfl) (b.ext q.ext).os rfl rfl (by rw [hsb]; simp) (Nat.le_refl _)
  have e1 : (sb.drop 1).take (sb.length - 1) = tl := by rw [hsb]; simp
  rw [e1, e2] at hv1
  rw [e2] at ev1
  obtain ⟨S, hS⟩ : ∃ S, sa ++ tl = S := ⟨_, rfl⟩
  rw [htl, hS] at hpick
  rw [htl, hS]
  have hSl : S.length ≤ 7 := by rw [← hS]; simp; omega
  simp -implicitDefEqProofs only [kz, kk0, kk1, kk2, kk3, ↓two_true, ↓two_false, oS_some, oM_some, mkv, aggAt, Nat.reduceLeDiff, Nat.reduceSub, Nat.reduceMul, implies_true, Nat.reduceEqDiff, reduceIte, Nat.reduceAdd, Nat.reduceBEq, reduceCtorEq, al26, ap24_24, bd26, bs89_2, fa26_0, fa26_1, ix24, ix62, ld3, ld24, ld26, ln24, ln62, sn24, sl24, st24, st26, (q.rd 2 rfl).1, (q.rd 3 rfl).1, ev1]
  have kA : KOk H3 .r (.slice a1 sa.length c1) := ⟨(a.ext q.ext).os.ok, by rw [(a.ext q.ext).os.row]; omega⟩
  have kB : KOk H3 .r (.slice t1 tl.length y1) := ⟨hv1.ok, by rw [hv1.row]; omega⟩
  have hcv : cvs (H3 ++ [⟨[.slice a1 sa.length c1, .slice t1 tl.length y1], .own⟩]) [.slice a1 sa.length c1, .slice t1 tl.length y1] = [.r sa, .r tl] := by
    have k1 := ((a.ext q.ext).os.mono (L := [⟨[.slice a1 sa.length c1, .slice t1 tl.length y1], .own⟩]))
    have k2 := (hv1.mono (L := [⟨[.slice a1 sa.length c1, .slice t1 tl.length y1], .own⟩]))
    simp only [cvs, List.map_cons, List.map_nil, cv_row k1.ok, cv_row k2.ok, k1.row, k2.row]
  have q := q.box [.slice a1 sa.length c1, .slice t1 tl.length y1]
  refine (concatI_ok (fRow2 (q.ok 0 _ rfl) kA.mono kB.mono) (by decide) (by rw [hcv]; simp [rsum, rsum1]; omega)).mono ?_
  rw [hcv, show flatR [CV.r sa, CV.r tl] = S by simp [flatR, hS]]
  rintro _ H4 ⟨⟨xa, xc, rfl, ho, hf⟩, he⟩
  have q := ((q.concat ho hf he).nrow (v := .slice none 0 0) (l := []) ⟨OwnRow.nil, fun b hb => by simp [blkOf] at hb⟩ ext_refl).box [.slice xa S.length xc, .slice none 0 0]
  simp -implicitDefEqProofs only [kz, kk0, kk1, kk2, kk3, ↓two_true, ↓two_false, oS_some, oM_some, mkv, aggAt, Nat.reduceLeDiff, Nat.reduceSub, Nat.reduceMul, implies_true, Nat.reduceEqDiff, reduceIte, Nat.reduceAdd, Nat.reduceBEq, reduceCtorEq, al26, ap24_24, bd26, bs89_2, fa26_0, fa26_1, ix24, ix62, ld3, ld24, ld26, ln24, ln62, sn24, sl24, st24, st26] at ⊢
  have e0 := (q.rd 7 rfl).1
  try simp -implicitDefEqProofs only [kz, kk0, kk1, kk2, kk3, ↓two_true, ↓two_false, oS_some, oM_some, mkv, aggAt, Nat.reduceLeDiff, Nat.reduceSub, Nat.reduceMul, implies_true, Nat.reduceEqDiff, reduceIte, Nat.reduceAdd, Nat.reduceBEq, reduceCtorEq, al26, ap24_24, bd26, bs89_2, fa26_0, fa26_1, ix24, ix62, ld3, ld24, ld26, ln24, ln62, sn24, sl24, st24, st26, e0]
  refine rW_loop (σ := Nat × Option Addr × Nat) (fun x tm H' => tm 2 = .pointer (some ⟨H.length, 0, none⟩) ∧ tm 3 = .pointer (some ⟨H.length + 1, 0, none⟩) ∧ tm 4 = .pointer (some ⟨H.length + 2, 0, none⟩) ∧ tm 6 = .slice ra rs.length rc ∧ tm 7 = .pointer (some ⟨H4.length, 0, none⟩) ∧ tm 48 = .slice a2 da.length c2 ∧ tm 49 = .int .i64 da.length ∧ tm 50 = .int .i64 x.1 ∧ x.1 ≤ da.length ∧ ((da.take x.1).all fun x => inB (idxP (sb.headD 0) x) 0 (sb.headD 0 - 1)) = true ∧ LD none H H' [.box H4.length [.slice xa S.length xc, .slice x.2.1 (pickD (sb.headD 0) rs (da.take x.1)).length x.2.2], .row (.slice x.2.1 (pickD (sb.headD 0) rs (da.take x.1)).length x.2.2) (pickD (sb.headD 0) rs (da.take x.1)), .row (.slice xa S.length xc) S, .box H3.length [.slice a1 sa.length c1, .slice t1 tl.length y1], .cmp (.row (.slice ra rs.length rc) [.r, .r] rs.length ys) (rowsV rs), .box (H.length + 2) [.slice none 0 0, .slice none 0 0], .box (H.length + 1) [.slice b1 sb.length d1, .slice b2 db.length d2], .box H.length [.slice a1 sa.length c1, .slice a2 da.length c2]]) (fun x => da.length - x.1) (0, none, 0) ?_ ?_
  · exact ⟨rfl, rfl, rfl, rfl, rfl, rfl, rfl, rfl, Nat.zero_le _, rfl, q⟩
  · rintro ⟨i, av, cv⟩ tm H5 ⟨h2, h3, h4, h6, h7, h48, h49, h50, hi, hall, q⟩
    simp only at h50 hi hall q
    simp -implicitDefEqProofs only [kz, kk0, kk1, kk2, kk3, ↓two_true, ↓two_false, oS_some, oM_some, mkv, aggAt, Nat.reduceLeDiff, Nat.reduceSub, Nat.reduceMul, implies_true, Nat.reduceEqDiff, reduceIte, Nat.reduceAdd, Nat.reduceBEq, reduceCtorEq, al26, ap24_24, bd26, bs89_2, fa26_0, fa26_1, ix24, ix62, ld3, ld24, ld26, ln24, ln62, sn24, sl24, st24, st26, h2, h3, h4, h6, h7, h48, h49, h50]
    refine two_intro (fun hc => ?_) (fun hc => ?_)
    · have hc' : i < da.length := by simpa using hc
      obtain ⟨b9, o9, cs9, ei, hrd, hcell⟩ := ixI (a.ext q.ext).od hc'
      have hnum : -1000000000000 ≤ da[i] ∧ da[i] ≤ 1000000000000 := by
        unfold arrOk at v1
        simp only [Bool.and_eq_true] at v1
        have := List.all_eq_true.1 v1.2 da[i] (List.getElem_mem hc')
        simpa [numOk, inB] using this
      have hrs3 : rs.length ≤ 300 := by
        rw [← hrs, hsb]
        rw [hsb] at v2
        obtain ⟨n, e, hn3, -⟩ := arrOk_rows v2
        rw [rowsR_len e]; exact hn3
      have hwl : IntKind.i64.wrap ((rs.length : Int) - 1) = (rs.length : Int) - 1 := IntWalk.i64_in _ (by omega)
      have hwa : IntKind.i64.wrap (da[i] + (rs.length : Int)) = da[i] + (rs.length : Int) := IntWalk.i64_in _ (by omega)
      have hwi : IntKind.i64.wrap ((i : Int) + 1) = ((i + 1 : Nat) : Int) := IntWalk.i64_in _ (by omega)
      have hlD : (pickD (sb.headD 0) rs (da.take i)).length ≤ 90000 := by
        have h1 := pickD_len (l := da.take i) v2 hne hall
        rw [hrs] at h1
        have h3 := sizeI_le (l := sb.tail)
        have h4 : (da.take i).length ≤ 300 := by have := arrOk_len v1; simp; omega
        have : ((pickD (sb.headD 0) rs (da.take i)).length : Int) ≤ 300 * 300 := by
          rw [h1]
          rcases Int.lt_or_le (sizeI sb.tail) 0 with h5 | h5
          · have : ((da.take i).length : Int) * sizeI sb.tail ≤ 0 := Int.mul_nonpos_of_nonneg_of_nonpos (by omega) (by omega)
            omega
          · exact Int.mul_le_mul (by omega) h3 h5 (by omega)
        omega
      have hstep : pickD (sb.headD 0) rs (da.take (i + 1)) = pickD (sb.headD 0) rs (da.take i) ++ ((rs[(idxP (sb.headD 0) da[i]).toNat]?).getD ([], [])).2 := by
        rw [List.take_succ_eq_append_getElem hc', pickD_snoc]
      simp -implicitDefEqProofs only [kz, kk0, kk1, kk2, kk3, ↓two_true, ↓two_false, oS_some, oM_some, mkv, aggAt, Nat.reduceLeDiff, Nat.reduceSub, Nat.reduceMul, implies_true, Nat.reduceEqDiff, reduceIte, Nat.reduceAdd, Nat.reduceBEq, reduceCtorEq, al26, ap24_24, bd26, bs89_2, fa26_0, fa26_1, ix24, ix62, ld3, ld24, ld26, ln24, ln62, sn24, sl24, st24, st26, h2, h3, h4, h6, h7, h48, h49, h50, ei, hrd, hcell]
      obtain ⟨k, hk⟩ : ∃ k, idxP (sb.headD 0) da[i] = k := ⟨_, rfl⟩
      have bad : inB k 0 ((rs.length : Int) - 1) = false → ∀ kk, Ans1 H (H5.set (H.length + 2) kk) (.tuple #[.agg #[.slice none 0 0, .slice none 0 0], .int .i64 5]) (if (da.all fun x => inB (idxP (sb.headD 0) x) 0 (sb.headD 0 - 1)) = true then (if sizeI S < 0 then (([], []), 6) else ((S, pickD (sb.headD 0) rs da), 0)) else (([], []), 5)) := fun hb kk => by
        rw [if_neg]
        · exact Ans1.err (LD.upd q 5 rfl (by simp) (fun b hb hn => List.getElem?_set_ne (fun e => hn e.symm)) (x' := .row (.slice none 0 0) []) OwnRow.nil fun b hb => by simp [It.bs, blkOf] at hb)
        · rw [Bool.not_eq_true, all_take_false (f := fun x => inB (idxP (sb.headD 0) x) 0 (sb.headD 0 - 1)) hc' (by rw [hk, ← hrl]; exact hb)]
      refine two_intro (fun hx => ?_) (fun hx => ?_)
      · have hkx : da[i] + (rs.length : Int) = k := by rw [← hk]; unfold idxP; rw [if_pos (by simpa using hx)]; try rw [hrl]
        have hkw : IntKind.i64.wrap (da[i] + (rs.length : Int)) = k := hwa.trans hkx
        simp -implicitDefEqProofs only [kz, kk0, kk1, kk2, kk3, ↓two_true, ↓two_false, oS_some, oM_some, mkv, aggAt, Nat.reduceLeDiff, Nat.reduceSub, Nat.reduceMul, implies_true, Nat.reduceEqDiff, reduceIte, Nat.reduceAdd, Nat.reduceBEq, reduceCtorEq, al26, ap24_24, bd26, bs89_2, fa26_0, fa26_1, ix24, ix62, ld3, ld24, ld26, ln24, ln62, sn24, sl24, st24, st26, h2, h3, h4, h6, h7, h48, h49, h50, hkw, hwl, within_eq]
        refine two_intro (fun hb => ?_) (fun hb => ?_)
        · simp -implicitDefEqProofs only [kz, kk0, kk1, kk2, kk3, ↓two_true, ↓two_false, oS_some, oM_some, mkv, aggAt, Nat.reduceLeDiff, Nat.reduceSub, Nat.reduceMul, implies_true, Nat.reduceEqDiff, reduceIte, Nat.reduceAdd, Nat.reduceBEq, reduceCtorEq, al26, ap24_24, bd26, bs89_2, fa26_0, fa26_1, ix24, ix62, ld3, ld24, ld26, ln24, ln62, sn24, sl24, st24, st26, h2, h3, h4, h6, h7, (q.rd 5 rfl).2, rd_own (set_at (k' := ⟨[.slice none 0 0, .slice none 0 0], .own⟩) (q.ok 5 _ rfl))]
          exact bad (by simpa using hb) _
        have hb' : inB k 0 ((rs.length : Int) - 1) = true := by simpa using hb
        have hkr : 0 ≤ k ∧ k ≤ (rs.length : Int) - 1 := by simpa [inB] using hb'
        obtain ⟨kn, rfl⟩ : ∃ kn : Nat, k = kn := ⟨k.toNat, by omega⟩
        have hkn : kn < rs.length := by omega
        obtain ⟨b8, o8, cs8, p8, q8, ei8, hr8, hp8, hq8, -, hi8⟩ := ixR (q.rows 4 rfl).1 hkn
        obtain ⟨t8, s8, e8, -⟩ := hi8.op
        subst e8
        have hrl8 := (hrow kn rs[kn] (List.getElem?_eq_getElem hkn)).2.2.2.2
        rw [hk, Int.toNat_natCast, List.getElem?_eq_getElem hkn, Option.getD_some] at hstep
        simp -implicitDefEqProofs only [kz, kk0, kk1, kk2, kk3, ↓two_true, ↓two_false, oS_some, oM_some, mkv, aggAt, Nat.reduceLeDiff, Nat.reduceSub, Nat.reduceMul, implies_true, Nat.reduceEqDiff, reduceIte, Nat.reduceAdd, Nat.reduceBEq, reduceCtorEq, al26, ap24_24, bd26, bs89_2, fa26_0, fa26_1, ix24, ix62, ld3, ld24, ld26, ln24, ln62, sn24, sl24, st24, st26, h2, h3, h4, h6, h7, h48, h49, h50, (q.rd 0 rfl).1, ei8, hr8, hq8, hkw]
        refine oA_own (q.own 1 rfl) hi8 (by omega) fun a9 c9 H6 o9 x9 => ?_
        have q := q.push 1 rfl o9 x9
        have q' := q.set 0 rfl [.slice xa S.length xc, .slice a9 ((pickD (sb.headD 0) rs (da.take i)).length + rs[kn].2.length) c9]
        simp -implicitDefEqProofs only [kz, kk0, kk1, kk2, kk3, ↓two_true, ↓two_false, oS_some, oM_some, mkv, aggAt, Nat.reduceLeDiff, Nat.reduceSub, Nat.reduceMul, implies_true, Nat.reduceEqDiff, reduceIte, Nat.reduceAdd, Nat.reduceBEq, reduceCtorEq, al26, ap24_24, bd26, bs89_2, fa26_0, fa26_1, ix24, ix62, ld3, ld24, ld26, ln24, ln62, sn24, sl24, st24, st26, h2, h3, h4, h6, h7, h48, h49, h50, (q.rd 0 rfl).2, hwi]
        refine ⟨(i + 1, a9, c9), by simp only; omega, rfl, hc', ?_, ?_⟩
        · rw [List.take_succ_eq_append_getElem hc', List.all_append, hall, List.all_cons, List.all_nil, hk, ← hrl, hb']; rfl
        · simp only
          rw [hstep, List.length_append]
          exact q'
      · have hkx : da[i] = k := by rw [← hk]; unfold idxP; rw [if_neg (by simpa using hx)]; try rw [hrl]
        have hkw := hkx
        simp -implicitDefEqProofs only [kz, kk0, kk1, kk2, kk3, ↓two_true, ↓two_false, oS_some, oM_some, mkv, aggAt, Nat.reduceLeDiff, Nat.reduceSub, Nat.reduceMul, implies_true, Nat.reduceEqDiff, reduceIte, Nat.reduceAdd, Nat.reduceBEq, reduceCtorEq, al26, ap24_24, bd26, bs89_2, fa26_0, fa26_1, ix24, ix62, ld3, ld24, ld26, ln24, ln62, sn24, sl24, st24, st26, h2, h3, h4, h6, h7, h48, h49, h50, hkw, hwl, within_eq]
        refine two_intro (fun hb => ?_) (fun hb => ?_)
        · simp -implicitDefEqProofs only [kz, kk0, kk1, kk2, kk3, ↓two_true, ↓two_false, oS_some, oM_some, mkv, aggAt, Nat.reduceLeDiff, Nat.reduceSub, Nat.reduceMul, implies_true, Nat.reduceEqDiff, reduceIte, Nat.reduceAdd, Nat.reduceBEq, reduceCtorEq, al26, ap24_24, bd26, bs89_2, fa26_0, fa26_1, ix24, ix62, ld3, ld24, ld26, ln24, ln62, sn24, sl24, st24, st26, h2, h3, h4, h6, h7, (q.rd 5 rfl).2, rd_own (set_at (k' := ⟨[.slice none 0 0, .slice none 0 0], .own⟩) (q.ok 5 _ rfl))]
          exact bad (by simpa using hb) _
        have hb' : inB k 0 ((rs.length : Int) - 1) = true := by simpa using hb
        have hkr : 0 ≤ k ∧ k ≤ (rs.length : Int) - 1 := by simpa [inB] using hb'
        obtain ⟨kn, rfl⟩ : ∃ kn : Nat, k = kn := ⟨k.toNat, by omega⟩
        have hkn : kn < rs.length := by omega
        obtain ⟨b8, o8, cs8, p8, q8, ei8, hr8, hp8, hq8, -, hi8⟩ := ixR (q.rows 4 rfl).1 hkn
        obtain ⟨t8, s8, e8, -⟩ := hi8.op
        subst e8
        have hrl8 := (hrow kn rs[kn] (List.getElem?_eq_getElem hkn)).2.2.2.2
        rw [hk, Int.toNat_natCast, List.getElem?_eq_getElem hkn, Option.getD_some] at hstep
        simp -implicitDefEqProofs only [kz, kk0, kk1, kk2, kk3, ↓two_true, ↓two_false, oS_some, oM_some, mkv, aggAt, Nat.reduceLeDiff, Nat.reduceSub, Nat.reduceMul, implies_true, Nat.reduceEqDiff, reduceIte, Nat.reduceAdd, Nat.reduceBEq, reduceCtorEq, al26, ap24_24, bd26, bs89_2, fa26_0, fa26_1, ix24, ix62, ld3, ld24, ld26, ln24, ln62, sn24, sl24, st24, st26, h2, h3, h4, h6, h7, h48, h49, h50, (q.rd 0 rfl).1, ei8, hr8, hq8, hkw]
        refine oA_own (q.own 1 rfl) hi8 (by omega) fun a9 c9 H6 o9 x9 => ?_
        have q := q.push 1 rfl o9 x9
        have q' := q.set 0 rfl [.slice xa S.length xc, .slice a9 ((pickD (sb.headD 0) rs (da.take i)).length + rs[kn].2.length) c9]
        simp -implicitDefEqProofs only [kz, kk0, kk1, kk2, kk3, ↓two_true, ↓two_false, oS_some, oM_some, mkv, aggAt, Nat.reduceLeDiff, Nat.reduceSub, Nat.reduceMul, implies_true, Nat.reduceEqDiff, reduceIte, Nat.reduceAdd, Nat.reduceBEq, reduceCtorEq, al26, ap24_24, bd26, bs89_2, fa26_0, fa26_1, ix24, ix62, ld3, ld24, ld26, ln24, ln62, sn24, sl24, st24, st26, h2, h3, h4, h6, h7, h48, h49, h50, (q.rd 0 rfl).2, hwi]
        refine ⟨(i + 1, a9, c9), by simp only; omega, rfl, hc', ?_, ?_⟩
        · rw [List.take_succ_eq_append_getElem hc', List.all_append, hall, List.all_cons, List.all_nil, hk, ← hrl, hb']; rfl
        · simp only
          rw [hstep, List.length_append]
          exact q'
    · have hil : i = da.length := Nat.le_antisymm hi (Nat.not_lt.1 (by simpa using hc))
      subst hil
      rw [List.take_length] at q hall
      have hpk := hpick hall
      obtain ⟨D, hD⟩ : ∃ D, pickD (sb.headD 0) rs da = D := ⟨_, rfl⟩
      have hlD : D.length ≤ 90000 := by
        have h1 := pickD_len (l := da) v2 hne hall
        rw [hrs, hD] at h1
        have h3 := sizeI_le (l := sb.tail)
        have h4 : da.length ≤ 300 := arrOk_len v1
        have : (D.length : Int) ≤ 300 * 300 := by
          rw [h1]
          rcases Int.lt_or_le (sizeI sb.tail) 0 with h5 | h5
          · have : (da.length : Int) * sizeI sb.tail ≤ 0 := Int.mul_nonpos_of_nonneg_of_nonpos (by omega) (by omega)
            omega
          · exact Int.mul_le_mul (by omega) h3 h5 (by omega)
        omega
      rw [hD] at q hpk
      rw [if_pos hall, hD]
      simp -implicitDefEqProofs only [kz, kk0, kk1, kk2, kk3, ↓two_true, ↓two_false, oS_some, oM_some, mkv, aggAt, Nat.reduceLeDiff, Nat.reduceSub, Nat.reduceMul, implies_true, Nat.reduceEqDiff, reduceIte, Nat.reduceAdd, Nat.reduceBEq, reduceCtorEq, al26, ap24_24, bd26, bs89_2, fa26_0, fa26_1, ix24, ix62, ld3, ld24, ld26, ln24, ln62, sn24, sl24, st24, st26, h2, h3, h4, h6, h7, (q.rd 0 rfl).1]
      refine (implOk_ar (q.ar 2 1 rfl rfl (by omega) (by omega))).mono ?_
      rintro _ H6 ⟨rfl, he⟩
      have q := q.extd he
      have w := q.set 5 rfl [.slice xa S.length xc, .slice av D.length cv]
      simp -implicitDefEqProofs only [kz, kk0, kk1, kk2, kk3, ↓two_true, ↓two_false, oS_some, oM_some, mkv, aggAt, Nat.reduceLeDiff, Nat.reduceSub, Nat.reduceMul, implies_true, Nat.reduceEqDiff, reduceIte, Nat.reduceAdd, Nat.reduceBEq, reduceCtorEq, al26, ap24_24, bd26, bs89_2, fa26_0, fa26_1, ix24, ix62, ld3, ld24, ld26, ln24, ln62, sn24, sl24, st24, st26, h2, h3, h4, h6, h7, (q.rd 0 rfl).1, (q.rd 5 rfl).2, rd_own (set_at (k' := ⟨[.slice none 0 0, .slice none 0 0], .own⟩) (q.ok 5 _ rfl)), (w.rd 5 rfl).1]
      rw [hpk]
      refine two_intro (fun u => ?_) (fun u => ?_)
      · rw [if_pos (by simpa using u)]
        exact Ans1.err (q.set 5 rfl _)
      · rw [if_neg (by simpa using u)]
        exact w.ans 2 1 (by decide) rfl rfl
theorem TabOk.ownOk {B : Nat → Prop} {H : AH} {v : Value} {ks : List CK} {n : Nat} {xs : List Value} (s : Nat) (hs : ks.length = s) (h : TabOk B H v ks n xs) : Go.Proofs.Ytpclegiocblpmaa.AM.ownOk v s H = true := by
  subst hs
  rcases h.row with ⟨rfl, rfl⟩ | ⟨b, o, cs, rfl, h1, h2, h3⟩
  · simp [Go.Proofs.Ytpclegiocblpmaa.AM.ownOk]
  · simp [Go.Proofs.Ytpclegiocblpmaa.AM.ownOk, h1]
theorem LX.rowsT {c0 : Option Nat} {H0 H : AH} {L : List Ix} {v : Value} {n : Nat} {ys : List Value} {rs : List (List Int × List Int)} (h : LX c0 H0 H L) (i : Nat) (hi : L[i]? = some (.tab v [.r, .r] n ys (rowsV rs))) : RowsA H v rs ∧ n = rs.length := FRow.rows (h.tb i hi).1 (h.tb i hi).2
/-- An element of a table that is only read: its rows, held as rows that are only read. -/
theorem LX.elem {c0 : Option Nat} {H0 H : AH} {L : List Ix} {v : Value} {n : Nat} {xs : List Value} {rs : List (List Int × List Int)} {k : Nat} (q : LX c0 H0 H L) (i : Nat) (hi : L[i]? = some (.ftab v [.r, .r] n xs (rowsV rs))) (hk : k < rs.length) :
    ∃ b o cs p p', v = .slice (some ⟨b, o, none⟩) n 2 ∧ Go.Proofs.Ytpclegiocblpmaa.AM.rd H b = some cs ∧ cs[o + k * 2]? = some p ∧ cs[o + k * 2 + 1]? = some p' ∧ LX c0 H0 H (.fro p rs[k].1 :: .fro p' rs[k].2 :: L) := by
  obtain ⟨B, h⟩ := q
  obtain ⟨t1, t2⟩ := h.ok i _ hi
  have hn : n = rs.length := (FRow.rows t1.fr t2).2
  have hl := t1.fr.len
  simp only [List.length_cons, List.length_nil] at hl
  rcases t1.fr.row with ⟨_, e⟩ | ⟨b, o, cs, e, h2, h3, h4⟩
  · omega
  · obtain ⟨g1, g2⟩ := rowsV_get hk
    have e0 := List.getElem?_eq_getElem (l := xs) (i := k * 2) (by omega)
    have e1 := List.getElem?_eq_getElem (l := xs) (i := k * 2 + 1) (by omega)
    have k0 := t1.fr.ok k 0 .r (xs[k * 2]'(by omega)) (by omega) rfl e0
    have k1 := t1.fr.ok k 1 .r _ (by omega) rfl e1
    rw [← t2] at g1 g2
    simp only [cvs, List.getElem?_map, e0, e1, Option.map_some, cv_row k0.1, cv_row k1.1, Option.some.injEq, CV.r.injEq] at g1 g2
    refine ⟨b, o, cs, _, _, by rw [e]; rfl, h2, h4 _ _ e0, by rw [Nat.add_assoc]; exact h4 _ _ e1, B, ?_⟩
    have m0 : ∀ g, blkOf (xs[k * 2]'(by omega)) = some g → B g := fun g hg => t1.base g (.inr ⟨_, List.getElem_mem _, hg⟩)
    have m1 : ∀ g, blkOf (xs[k * 2 + 1]'(by omega)) = some g → B g := fun g hg => t1.base g (.inr ⟨_, List.getElem_mem _, hg⟩)
    have h5 : LB B c0 H0 H (.fro _ rs[k].2 :: L) := h.add (x := .fro (xs[k * 2 + 1]'(by omega)) rs[k].2) (Nat.le_refl _) (fun b hb _ => rfl) h.cur ⟨by rw [← g2]; exact k1.1, m1⟩ fun b hb => hb.elim
    exact h5.add (x := .fro (xs[k * 2]'(by omega)) rs[k].1) (Nat.le_refl _) (fun b hb _ => rfl) h.cur ⟨by rw [← g1]; exact k0.1, m0⟩ fun b hb => hb.elim

theorem IntRow.tl {H : AH} {a : Option Addr} {n c : Nat} {l : List Int} (h : IntRow H (.slice a n c) l) (h1 : 1 ≤ l.length) : ∃ a' c', aSlice Try.prog 24 (.slice a n c) (some (.int .i64 1)) none = some (.slice a' l.tail.length c') ∧ IntRow H (.slice a' l.tail.length c') l.tail := by
  have hn : n = l.length := by
    obtain ⟨a', c', e, _⟩ := h.op
    injection e
  subst hn
  obtain ⟨t, y, e1, e2, -⟩ := IntRow.sl (P := Try.prog) (t := 24) (e := 3) (lo := some (.int .i64 1)) (hi := none) (x := 1) (y := l.length) Try.underlying24 (by kernel_rfl) h rfl rfl h1 (Nat.le_refl _)
  have e3 : (l.drop 1).take (l.length - 1) = l.tail := by rw [List.drop_one, List.take_of_length_le (by simp)]
  have e4 : l.length - 1 = l.tail.length := by simp
  rw [e3, e4] at e2
  rw [e4] at e1
  exact ⟨t, y, e1, e2⟩

def flatD (rs : List (List Int × List Int)) : List Int := rs.flatMap (·.2)
def joinR (rs : List (List Int × List Int)) (sh : List Int) : (List Int × List Int) × Int := if arrOk ((rs.length : Int) :: sh) (flatD rs) then (((rs.length : Int) :: sh, flatD rs), 0) else (([], []), 6)
theorem flatD_take {rs : List (List Int × List Int)} {i : Nat} (h : i < rs.length) : flatD (rs.take (i + 1)) = flatD (rs.take i) ++ rs[i].2 := by
  rw [List.take_succ_eq_append_getElem h]; simp only [flatD, List.flatMap_append, List.flatMap_cons, List.flatMap_nil, List.append_nil]
theorem flatD_take_le {rs : List (List Int × List Int)} {i : Nat} : (flatD (rs.take i)).length ≤ (flatD rs).length := by
  have : flatD rs = flatD (rs.take i) ++ flatD (rs.drop i) := by
    unfold flatD; rw [← List.flatMap_append, List.take_append_drop]
  rw [this]; simp

set_option maxHeartbeats 4000000 in
theorem joined_ok {H : AH} {v w : Value} {rs : List (List Int × List Int)} {sh : List Int} (r : RowsA H v rs) (h : IntRow H w sh) (l1 : rs.length ≤ 1048576) (l2 : sh.length ≤ 1048575) (l3 : (flatD rs).length ≤ 1048576) : CallsA Try.prog 41 #[v, w] H fun r H' => Ans1 H H' r (joinR rs sh) := by
  have r0 := r
  obtain ⟨ra, rc, rfl, -⟩ := r0
  obtain ⟨wa, wc, rfl, -⟩ := h.op
  have q := (LX.nil (H := H))
  refine w41 ?_
  unfold k41
  simp -implicitDefEqProofs only [kz, kk0, kk1, kk2, kk3, ↓two_true, ↓two_false, mkv, aggAt, Nat.reduceLeDiff, Nat.reduceSub, Nat.reduceMul, implies_true, Nat.reduceEqDiff, reduceIte, Nat.reduceAdd, Nat.reduceBEq, reduceCtorEq, al26, ap24_24, bd26, bs24_1, fa26_1, ix62, ld24, ld26, ln62, st24, st26]
  refine st_box q fun H1 q1 => ?_
  simp -implicitDefEqProofs only [kz, kk0, kk1, kk2, kk3, ↓two_true, ↓two_false, mkv, aggAt, Nat.reduceLeDiff, Nat.reduceSub, Nat.reduceMul, implies_true, Nat.reduceEqDiff, reduceIte, Nat.reduceAdd, Nat.reduceBEq, reduceCtorEq, al26, ap24_24, bd26, bs24_1, fa26_1, ix62, ld24, ld26, ln62, st24, st26, q1.rd 0 rfl]
  refine st_lit [_] rfl rfl q1 fun H2 q2 => ?_
  simp -implicitDefEqProofs only [kz, kk0, kk1, kk2, kk3, ↓two_true, ↓two_false, mkv, aggAt, Nat.reduceLeDiff, Nat.reduceSub, Nat.reduceMul, implies_true, Nat.reduceEqDiff, reduceIte, Nat.reduceAdd, Nat.reduceBEq, reduceCtorEq, al26, ap24_24, bd26, bs24_1, fa26_1, ix62, ld24, ld26, ln62, st24, st26, q2.rd 1 rfl]
  refine st_app q2 0 rfl (h.ext q2.ext) (by (try simp only [List.length_cons, List.length_nil, List.length_append, List.length_replicate, List.length_map, List.length_take, List.length_drop]); omega) fun a1 c1 H3 q3 => ?_
  simp only [List.set_cons_zero, List.set_cons_succ, List.length_nil, List.length_cons, Nat.zero_add, List.nil_append] at q3 ⊢
  simp -implicitDefEqProofs only [kz, kk0, kk1, kk2, kk3, ↓two_true, ↓two_false, mkv, aggAt, Nat.reduceLeDiff, Nat.reduceSub, Nat.reduceMul, implies_true, Nat.reduceEqDiff, reduceIte, Nat.reduceAdd, Nat.reduceBEq, reduceCtorEq, al26, ap24_24, bd26, bs24_1, fa26_1, ix62, ld24, ld26, ln62, st24, st26, q3.rd 1 rfl]
  refine st_box q3 fun H4 q4 => ?_
  simp -implicitDefEqProofs only [kz, kk0, kk1, kk2, kk3, ↓two_true, ↓two_false, mkv, aggAt, Nat.reduceLeDiff, Nat.reduceSub, Nat.reduceMul, implies_true, Nat.reduceEqDiff, reduceIte, Nat.reduceAdd, Nat.reduceBEq, reduceCtorEq, al26, ap24_24, bd26, bs24_1, fa26_1, ix62, ld24, ld26, ln62, st24, st26, q4.rd 0 rfl, q4.rd 2 rfl]
  refine st_set q4 0 rfl fun H5 q5 => ?_
  simp only [List.set_cons_zero, List.set_cons_succ] at q5
  simp -implicitDefEqProofs only [kz, kk0, kk1, kk2, kk3, ↓two_true, ↓two_false, mkv, aggAt, Nat.reduceLeDiff, Nat.reduceSub, Nat.reduceMul, implies_true, Nat.reduceEqDiff, reduceIte, Nat.reduceAdd, Nat.reduceBEq, reduceCtorEq, al26, ap24_24, bd26, bs24_1, fa26_1, ix62, ld24, ld26, ln62, st24, st26, q5.rd 0 rfl, q5.rd 2 rfl]
  have q6 := q5.nil0
  refine rW_loopQ (σ := Nat × Option Addr × Nat) q6 [4, 5, 6, 15, 16] (fun x tm => tm 17 = .int .i64 x.1 ∧ x.1 ≤ rs.length) (fun x L => (L.set 1 (.own (.box H3.length [.slice a1 (1 + sh.length) c1, .slice x.2.1 (flatD (rs.take x.1)).length x.2.2]))).set 0 (.own (.row (.slice x.2.1 (flatD (rs.take x.1)).length x.2.2) (flatD (rs.take x.1))))) (fun x => rs.length - x.1) (0, none, 0) ⟨rfl, Nat.zero_le _⟩ rfl ?_
  rintro ⟨i, a, c⟩ tm1 H6 ⟨h1, h2, h3, h4, h5, -⟩ ⟨k1, hi⟩ q7
  simp -implicitDefEqProofs only [kz, kk0, kk1, kk2, kk3, ↓two_true, ↓two_false, mkv, aggAt, Nat.reduceLeDiff, Nat.reduceSub, Nat.reduceMul, implies_true, Nat.reduceEqDiff, reduceIte, Nat.reduceAdd, Nat.reduceBEq, reduceCtorEq, al26, ap24_24, bd26, bs24_1, fa26_1, ix62, ld24, ld26, ln62, st24, st26] at h1 h2 h3 h4 h5
  simp only [List.set_cons_zero, List.set_cons_succ] at q7
  simp only at k1 hi
  simp -implicitDefEqProofs only [kz, kk0, kk1, kk2, kk3, ↓two_true, ↓two_false, mkv, aggAt, Nat.reduceLeDiff, Nat.reduceSub, Nat.reduceMul, implies_true, Nat.reduceEqDiff, reduceIte, Nat.reduceAdd, Nat.reduceBEq, reduceCtorEq, al26, ap24_24, bd26, bs24_1, fa26_1, ix62, ld24, ld26, ln62, st24, st26, h1, h2, h3, h4, h5, k1, q7.rd 1 rfl, q7.rd 3 rfl]
  refine two_intro (fun u1 => ?_) (fun u1 => ?_)
  ·
    have hc' : i < rs.length := by simpa using u1
    have hstep := flatD_take hc'
    have hle := flatD_take_le (rs := rs) (i := i + 1)
    rw [hstep, List.length_append] at hle
    obtain ⟨b1, o1, cs1, p1, p2, ei1, fr1, fc1, fc2, fi1, fi2⟩ := ixR r hc'
    obtain ⟨a2, c2, rfl, -⟩ := fi1.op
    obtain ⟨a3, c3, rfl, -⟩ := fi2.op
    try simp -implicitDefEqProofs only [kz, kk0, kk1, kk2, kk3, ↓two_true, ↓two_false, mkv, aggAt, Nat.reduceLeDiff, Nat.reduceSub, Nat.reduceMul, implies_true, Nat.reduceEqDiff, reduceIte, Nat.reduceAdd, Nat.reduceBEq, reduceCtorEq, al26, ap24_24, bd26, bs24_1, fa26_1, ix62, ld24, ld26, ln62, st24, st26, ei1, rd_ext fr1 q7.ext, fc1, fc2, ldA2 fc1 fc2, h1, h2, h3, h4, h5, k1, q7.rd 1 rfl, q7.rd 3 rfl]
    refine st_box q7 fun H7 q8 => ?_
    simp -implicitDefEqProofs only [kz, kk0, kk1, kk2, kk3, ↓two_true, ↓two_false, mkv, aggAt, Nat.reduceLeDiff, Nat.reduceSub, Nat.reduceMul, implies_true, Nat.reduceEqDiff, reduceIte, Nat.reduceAdd, Nat.reduceBEq, reduceCtorEq, al26, ap24_24, bd26, bs24_1, fa26_1, ix62, ld24, ld26, ln62, st24, st26, ei1, rd_ext fr1 q8.ext, fc1, fc2, ldA2 fc1 fc2, h1, h2, h3, h4, h5, k1, q8.rd 0 rfl, q8.rd 2 rfl, q8.rd 4 rfl]
    refine st_set q8 0 rfl fun H8 q9 => ?_
    simp only [List.set_cons_zero, List.set_cons_succ] at q9
    simp -implicitDefEqProofs only [kz, kk0, kk1, kk2, kk3, ↓two_true, ↓two_false, mkv, aggAt, Nat.reduceLeDiff, Nat.reduceSub, Nat.reduceMul, implies_true, Nat.reduceEqDiff, reduceIte, Nat.reduceAdd, Nat.reduceBEq, reduceCtorEq, al26, ap24_24, bd26, bs24_1, fa26_1, ix62, ld24, ld26, ln62, st24, st26, ei1, rd_ext fr1 q9.ext, fc1, fc2, ldA2 fc1 fc2, h1, h2, h3, h4, h5, k1, q9.rd 0 rfl, q9.rd 2 rfl, q9.rd 4 rfl]
    refine st_app q9 1 rfl (fi2.ext q9.ext) (by (try simp only [List.length_cons, List.length_nil, List.length_append, List.length_replicate, List.length_map, List.length_take, List.length_drop]); omega) fun a4 c4 H9 q10 => ?_
    simp only [List.set_cons_zero, List.set_cons_succ, List.length_nil, List.length_cons, Nat.zero_add, List.nil_append] at q10 ⊢
    simp -implicitDefEqProofs only [kz, kk0, kk1, kk2, kk3, ↓two_true, ↓two_false, mkv, aggAt, Nat.reduceLeDiff, Nat.reduceSub, Nat.reduceMul, implies_true, Nat.reduceEqDiff, reduceIte, Nat.reduceAdd, Nat.reduceBEq, reduceCtorEq, al26, ap24_24, bd26, bs24_1, fa26_1, ix62, ld24, ld26, ln62, st24, st26, ei1, rd_ext fr1 q10.ext, fc1, fc2, ldA2 fc1 fc2, h1, h2, h3, h4, h5, k1, q10.rd 0 rfl, q10.rd 2 rfl, q10.rd 4 rfl]
    refine st_set q10 2 rfl fun H10 q11 => ?_
    simp only [List.set_cons_zero, List.set_cons_succ] at q11
    have w1 := IntWalk.i64_in (↑i + 1) (by omega)
    simp -implicitDefEqProofs only [kz, kk0, kk1, kk2, kk3, ↓two_true, ↓two_false, mkv, aggAt, Nat.reduceLeDiff, Nat.reduceSub, Nat.reduceMul, implies_true, Nat.reduceEqDiff, reduceIte, Nat.reduceAdd, Nat.reduceBEq, reduceCtorEq, al26, ap24_24, bd26, bs24_1, fa26_1, ix62, ld24, ld26, ln62, st24, st26, ei1, rd_ext fr1 q11.ext, fc1, fc2, ldA2 fc1 fc2, w1, h1, h2, h3, h4, h5, k1, q11.rd 0 rfl, q11.rd 2 rfl, q11.rd 4 rfl]
    -- back loop1
    refine ⟨(i + 1, a4, c4), (by simp only; omega), ⟨rfl, rfl, rfl, rfl, rfl, trivial⟩, ⟨by simp, hc'⟩, ?_⟩
    simp only [List.set_cons_zero, List.set_cons_succ, hstep, List.length_append]
    exact q11.pick [1, 2, 3, 4] _ rfl (by decide)
  ·
    have hil : i = rs.length := Nat.le_antisymm hi (Nat.not_lt.1 (by simpa using u1))
    subst hil
    rw [List.take_length] at q7 ⊢
    try simp -implicitDefEqProofs only [kz, kk0, kk1, kk2, kk3, ↓two_true, ↓two_false, mkv, aggAt, Nat.reduceLeDiff, Nat.reduceSub, Nat.reduceMul, implies_true, Nat.reduceEqDiff, reduceIte, Nat.reduceAdd, Nat.reduceBEq, reduceCtorEq, al26, ap24_24, bd26, bs24_1, fa26_1, ix62, ld24, ld26, ln62, st24, st26, h1, h2, h3, h4, h5, k1, q7.rd 1 rfl, q7.rd 3 rfl]
    refine (implOk_ar (q7.ar 2 0 rfl rfl (by (try simp only [List.length_cons, List.length_nil, List.length_append, List.length_replicate, List.length_map, List.length_take, List.length_drop]); omega) (by (try simp only [List.length_cons, List.length_nil, List.length_append, List.length_replicate, List.length_map, List.length_take, List.length_drop]); omega))).mono ?_
    rintro _ H11 ⟨rfl, he1⟩
    have q12 := q7.extd he1
    simp -implicitDefEqProofs only [kz, kk0, kk1, kk2, kk3, ↓two_true, ↓two_false, mkv, aggAt, Nat.reduceLeDiff, Nat.reduceSub, Nat.reduceMul, implies_true, Nat.reduceEqDiff, reduceIte, Nat.reduceAdd, Nat.reduceBEq, reduceCtorEq, al26, ap24_24, bd26, bs24_1, fa26_1, ix62, ld24, ld26, ln62, st24, st26, h1, h2, h3, h4, h5, k1, q12.rd 1 rfl, q12.rd 3 rfl]
    refine two_intro (fun u2 => ?_) (fun u2 => ?_)
    ·
      try simp -implicitDefEqProofs only [kz, kk0, kk1, kk2, kk3, ↓two_true, ↓two_false, mkv, aggAt, Nat.reduceLeDiff, Nat.reduceSub, Nat.reduceMul, implies_true, Nat.reduceEqDiff, reduceIte, Nat.reduceAdd, Nat.reduceBEq, reduceCtorEq, al26, ap24_24, bd26, bs24_1, fa26_1, ix62, ld24, ld26, ln62, st24, st26, h1, h2, h3, h4, h5, k1, q12.rd 1 rfl, q12.rd 3 rfl]
      refine st_set q12 3 rfl fun H12 q13 => ?_
      simp only [List.set_cons_zero, List.set_cons_succ] at q13
      simp -implicitDefEqProofs only [kz, kk0, kk1, kk2, kk3, ↓two_true, ↓two_false, mkv, aggAt, Nat.reduceLeDiff, Nat.reduceSub, Nat.reduceMul, implies_true, Nat.reduceEqDiff, reduceIte, Nat.reduceAdd, Nat.reduceBEq, reduceCtorEq, al26, ap24_24, bd26, bs24_1, fa26_1, ix62, ld24, ld26, ln62, st24, st26, h1, h2, h3, h4, h5, k1, q13.rd 1 rfl, q13.rd 3 rfl]
      -- end1
      exact q13.err (by unfold joinR; exact if_neg (by simpa using u2))
    ·
      try simp -implicitDefEqProofs only [kz, kk0, kk1, kk2, kk3, ↓two_true, ↓two_false, mkv, aggAt, Nat.reduceLeDiff, Nat.reduceSub, Nat.reduceMul, implies_true, Nat.reduceEqDiff, reduceIte, Nat.reduceAdd, Nat.reduceBEq, reduceCtorEq, al26, ap24_24, bd26, bs24_1, fa26_1, ix62, ld24, ld26, ln62, st24, st26, h1, h2, h3, h4, h5, k1, q12.rd 1 rfl, q12.rd 3 rfl]
      refine st_set q12 3 rfl fun H13 q14 => ?_
      simp only [List.set_cons_zero, List.set_cons_succ] at q14
      simp -implicitDefEqProofs only [kz, kk0, kk1, kk2, kk3, ↓two_true, ↓two_false, mkv, aggAt, Nat.reduceLeDiff, Nat.reduceSub, Nat.reduceMul, implies_true, Nat.reduceEqDiff, reduceIte, Nat.reduceAdd, Nat.reduceBEq, reduceCtorEq, al26, ap24_24, bd26, bs24_1, fa26_1, ix62, ld24, ld26, ln62, st24, st26, h1, h2, h3, h4, h5, k1, q14.rd 1 rfl, q14.rd 3 rfl]
      -- end2
      exact q14.ans 2 0 (by decide) rfl rfl (by unfold joinR; exact if_pos (by simpa using u2))

theorem arrOk_size {sh dt : List Int} (h : arrOk sh dt = true) : sizeI sh = dt.length ∧ dt.length ≤ 300 := by
  have := arrOk_len h
  unfold arrOk at h
  simp only [Bool.and_eq_true, beq_iff_eq] at h
  exact ⟨h.1.symm, this⟩
/-- All rows of an array that is right: how long they are. -/
theorem rowsR_lim {sa da : List Int} (h : arrOk sa da = true) (hne : sa.length ≠ 0) : (rowsR sa da).length ≤ 300 ∧ ((rowsR sa da).length : Int) = sa.headD 0 ∧ (∀ r ∈ rowsR sa da, r.1 = sa.tail ∧ r.1.length ≤ 3 ∧ (r.2.length : Int) = sizeI sa.tail ∧ r.2.length ≤ 300 ∧ r.2.all numOk = true) := by
  have hne' : sa ≠ [] := by rintro rfl; exact hne rfl
  have h1 := rowsR_len' h hne'
  refine ⟨?_, h1, fun r hr => ?_⟩
  · obtain ⟨x, tl, e⟩ := List.exists_cons_of_ne_nil hne'
    rw [e] at h h1
    obtain ⟨n, e2, hn, _⟩ := arrOk_rows h
    rw [e]
    rw [rowsR_len e2]; exact hn
  · obtain ⟨i, hi, e⟩ := List.mem_iff_getElem.1 hr
    obtain ⟨e1, e2, e3, e4, e5⟩ := rowsR_row h (List.getElem?_eq_getElem hi)
    rw [e] at e1 e3 e4 e5
    refine ⟨e1, ?_, e3, e5, e4⟩
    rw [e1]
    exact (sizeI_ok e2).1
theorem scan_zero {sa da : List Int} (v1 : arrOk sa da = true) (v3 : sa.length ≠ 0) (h0 : (rowsR sa da).length = 0) : sa = ((0 : Nat) : Int) :: sa.tail ∧ da = [] := by
  obtain ⟨m1, m2, m3⟩ := rowsR_lim v1 v3
  have hsa : sa = sa.headD 0 :: sa.tail := by
    cases sa with
    | nil => exact absurd rfl v3
    | cons x tl => rfl
  rw [h0] at m2
  refine ⟨by rw [m2]; exact hsa, ?_⟩
  have h1 := arrOk_size v1
  obtain ⟨_, _, e⟩ := sizeI_ok (l := sa) (by omega)
  rw [hsa, ← m2, prodI_cons] at e
  refine List.eq_nil_of_length_eq_zero ?_
  have h2 := h1.1
  rw [hsa, ← m2, e] at h2
  simp at h2
  omega
theorem getD_lt {α : Type} {l : List α} {i : Nat} {d : α} (h : i < l.length) : l.getD i d = l[i] := by rw [List.getD_eq_getElem?_getD, List.getElem?_eq_getElem h]; rfl
theorem headD_get {l : List Int} (h : 0 < l.length) : l.headD 0 = l[0] := by
  cases l with
  | nil => simp at h
  | cons x l => rfl
set_option maxHeartbeats 4000000 in
theorem sameArray_ok {H : AH} {pa qa pb qb : Value} {sa da sb db : List Int} (a : AR H pa qa sa da) (b : AR H pb qb sb db) : CallsA Try.prog 15 #[.agg #[pa, qa], .agg #[pb, qb]] H fun r H' => r = .bool (sa == sb && da == db) ∧ ∃ K, H' = H ++ K := by
  have al := a.l1
  have bl := a.l2
  obtain ⟨za, zc, zb, zd, rfl, rfl⟩ := a.o1
  obtain ⟨ya, yc, yb, yd, rfl, rfl⟩ := b.o1
  have q := (LX.nil (H := H))
  refine w15 ?_
  unfold k15
  simp -implicitDefEqProofs only [kz, kk0, kk1, kk2, kk3, ↓two_true, ↓two_false, mkv, aggAt, Nat.reduceLeDiff, Nat.reduceSub, Nat.reduceMul, implies_true, Nat.reduceEqDiff, reduceIte, Nat.reduceAdd, Nat.reduceBEq, reduceCtorEq, fa26_0, fa26_1, ld24]
  refine st_box q fun H1 q1 => ?_
  simp -implicitDefEqProofs only [kz, kk0, kk1, kk2, kk3, ↓two_true, ↓two_false, mkv, aggAt, Nat.reduceLeDiff, Nat.reduceSub, Nat.reduceMul, implies_true, Nat.reduceEqDiff, reduceIte, Nat.reduceAdd, Nat.reduceBEq, reduceCtorEq, fa26_0, fa26_1, ld24, q1.rd 0 rfl]
  refine st_box q1 fun H2 q2 => ?_
  have es1 := fun Φ => (sameInts_ok (a.os.ext q2.ext) (b.os.ext q2.ext) (by (try simp only [List.length_cons, List.length_nil, List.length_append, List.length_replicate, List.length_map, List.length_take, List.length_drop]); omega)).eq0 (Φ := Φ)
  simp -implicitDefEqProofs only [kz, kk0, kk1, kk2, kk3, ↓two_true, ↓two_false, mkv, aggAt, Nat.reduceLeDiff, Nat.reduceSub, Nat.reduceMul, implies_true, Nat.reduceEqDiff, reduceIte, Nat.reduceAdd, Nat.reduceBEq, reduceCtorEq, fa26_0, fa26_1, ld24, es1, q2.rd 0 rfl, q2.rd 1 rfl]
  refine two_intro (fun u1 => ?_) (fun u1 => ?_)
  ·
    have es2 := fun Φ => (sameInts_ok (a.od.ext q2.ext) (b.od.ext q2.ext) (by (try simp only [List.length_cons, List.length_nil, List.length_append, List.length_replicate, List.length_map, List.length_take, List.length_drop]); omega)).eq0 (Φ := Φ)
    try simp -implicitDefEqProofs only [kz, kk0, kk1, kk2, kk3, ↓two_true, ↓two_false, mkv, aggAt, Nat.reduceLeDiff, Nat.reduceSub, Nat.reduceMul, implies_true, Nat.reduceEqDiff, reduceIte, Nat.reduceAdd, Nat.reduceBEq, reduceCtorEq, fa26_0, fa26_1, ld24, es1, es2, q2.rd 0 rfl, q2.rd 1 rfl]
    -- end1
    exact ⟨by rw [u1, Bool.true_and], q2.ext⟩
  ·
    try simp -implicitDefEqProofs only [kz, kk0, kk1, kk2, kk3, ↓two_true, ↓two_false, mkv, aggAt, Nat.reduceLeDiff, Nat.reduceSub, Nat.reduceMul, implies_true, Nat.reduceEqDiff, reduceIte, Nat.reduceAdd, Nat.reduceBEq, reduceCtorEq, fa26_0, fa26_1, ld24, es1, q2.rd 0 rfl, q2.rd 1 rfl]
    -- end2
    exact ⟨by rw [u1, Bool.false_and], q2.ext⟩

set_option maxHeartbeats 4000000 in
theorem scalarOf_ok {H : AH} {x : Int} (hx : numOk x = true) : CallsA Try.prog 11 #[.int .i64 x] H fun r H' => ∃ b, r = .tuple #[.agg #[.slice none 0 0, .slice (some ⟨b, 0, none⟩) 1 1], .bool true] ∧ LD none H H' [.row (.slice (some ⟨b, 0, none⟩) 1 1) [x]] := by
  have q := (LX.nil (H := H))
  refine w11 ?_
  unfold k11
  simp -implicitDefEqProofs only [kz, kk0, kk1, kk2, kk3, ↓two_true, ↓two_false, mkv, aggAt, Nat.reduceLeDiff, Nat.reduceSub, Nat.reduceMul, implies_true, Nat.reduceEqDiff, reduceIte, Nat.reduceAdd, Nat.reduceBEq, reduceCtorEq, al26, bd26, bs24_1, ld26, st26, implNumOk_eq]
  refine st_box q fun H1 q1 => ?_
  simp -implicitDefEqProofs only [kz, kk0, kk1, kk2, kk3, ↓two_true, ↓two_false, mkv, aggAt, Nat.reduceLeDiff, Nat.reduceSub, Nat.reduceMul, implies_true, Nat.reduceEqDiff, reduceIte, Nat.reduceAdd, Nat.reduceBEq, reduceCtorEq, al26, bd26, bs24_1, ld26, st26, implNumOk_eq, q1.rd 0 rfl]
  refine two_intro (fun u1 => ?_) (fun u1 => ?_)
  ·
    try simp -implicitDefEqProofs only [kz, kk0, kk1, kk2, kk3, ↓two_true, ↓two_false, mkv, aggAt, Nat.reduceLeDiff, Nat.reduceSub, Nat.reduceMul, implies_true, Nat.reduceEqDiff, reduceIte, Nat.reduceAdd, Nat.reduceBEq, reduceCtorEq, al26, bd26, bs24_1, ld26, st26, implNumOk_eq, q1.rd 0 rfl]
    refine st_set q1 0 rfl fun H2 q2 => ?_
    simp only [List.set_cons_zero, List.set_cons_succ] at q2
    simp -implicitDefEqProofs only [kz, kk0, kk1, kk2, kk3, ↓two_true, ↓two_false, mkv, aggAt, Nat.reduceLeDiff, Nat.reduceSub, Nat.reduceMul, implies_true, Nat.reduceEqDiff, reduceIte, Nat.reduceAdd, Nat.reduceBEq, reduceCtorEq, al26, bd26, bs24_1, ld26, st26, implNumOk_eq, q2.rd 0 rfl]
    -- end1
    rw [hx] at u1; cases u1
  ·
    try simp -implicitDefEqProofs only [kz, kk0, kk1, kk2, kk3, ↓two_true, ↓two_false, mkv, aggAt, Nat.reduceLeDiff, Nat.reduceSub, Nat.reduceMul, implies_true, Nat.reduceEqDiff, reduceIte, Nat.reduceAdd, Nat.reduceBEq, reduceCtorEq, al26, bd26, bs24_1, ld26, st26, implNumOk_eq, q1.rd 0 rfl]
    refine st_lit [x] rfl rfl q1 fun H3 q3 => ?_
    simp -implicitDefEqProofs only [kz, kk0, kk1, kk2, kk3, ↓two_true, ↓two_false, mkv, aggAt, Nat.reduceLeDiff, Nat.reduceSub, Nat.reduceMul, implies_true, Nat.reduceEqDiff, reduceIte, Nat.reduceAdd, Nat.reduceBEq, reduceCtorEq, al26, bd26, bs24_1, ld26, st26, implNumOk_eq, q3.rd 1 rfl]
    refine st_set q3 1 rfl fun H4 q4 => ?_
    simp only [List.set_cons_zero, List.set_cons_succ] at q4
    simp -implicitDefEqProofs only [kz, kk0, kk1, kk2, kk3, ↓two_true, ↓two_false, mkv, aggAt, Nat.reduceLeDiff, Nat.reduceSub, Nat.reduceMul, implies_true, Nat.reduceEqDiff, reduceIte, Nat.reduceAdd, Nat.reduceBEq, reduceCtorEq, al26, bd26, bs24_1, ld26, st26, implNumOk_eq, q4.rd 1 rfl]
    -- end2
    exact ⟨_, rfl, q4.give [0] (by decide) _ rfl⟩

theorem arrOk_scl {x : Int} (h : numOk x = true) : arrOk [] [x] = true := by
  unfold arrOk; simp [h]; decide
theorem rowsR_vec {da : List Int} {n : Nat} (h : da.length = n) : rowsR [(n : Int)] da = da.map fun x => ([], [x]) := by
  subst h
  have e : (sizeI []).toNat = 1 := by decide
  show (List.range ((da.length : Int)).toNat).map (fun i => ([], (da.drop (i * (sizeI []).toNat)).take (sizeI []).toNat)) = _
  rw [e, Int.toNat_natCast]
  refine List.ext_getElem (by simp) fun i h1 h2 => ?_
  have hi : i < da.length := by simpa using h2
  simp only [List.getElem_map, List.getElem_range, Nat.mul_one]
  rw [List.drop_eq_getElem_cons hi]
  rfl
theorem ARes.ans {H H' : AH} {r : Value} {R : (List Int × List Int) × Int} (h : ARes H H' r R) : Ans1 H H' r R := by
  obtain ⟨⟨a, c, b, d, rfl, h1, h2, h3, h4, h5, h6⟩, he⟩ := h
  exact ⟨_, _, rfl, ((LD.nil (H := H)).nrow2 (H' := H') ⟨h2, h5⟩ ⟨h3, h6⟩ h4 he)⟩

theorem LB.fz2 {B B' : Nat → Prop} {c : Option Nat} {H0 H : AH} {L : List Ix} {x x' : Ix} (h : LB B c H0 H L) (i : Nat) (hi : L[i]? = some x) (hB : ∀ b, B' b ↔ (B b ∨ (x.bs b ∧ ¬ x'.bs b))) (hx : x'.ok B' H) (hs : ∀ b, x'.bs b → x.bs b) : LB B' c H0 H (L.set i x') := by
  have hil := (List.getElem?_eq_some_iff.1 hi).1
  have get : ∀ (j : Nat) y, (L.set i x')[j]? = some y → (j = i ∧ y = x') ∨ (j ≠ i ∧ L[j]? = some y) := fun j y hy => by
    rcases Nat.decEq i j with e | e
    · rw [List.getElem?_set_ne e] at hy; exact .inr ⟨Ne.symm e, hy⟩
    · subst e; rw [List.getElem?_set_self hil] at hy; cases hy; exact .inl ⟨rfl, rfl⟩
  refine ⟨fun j y hy => ?_, fun j y hy b hb2 => ?_, fun j k y z hne hy hz b e1 e2 => ?_, h.len, h.keep, fun b hb hn => (hB b).2 (.inl (h.b0 b hb hn)), fun b hb => ?_, h.cur, fun cb e j y hy h2 => ?_⟩
  · rcases get j y hy with ⟨rfl, rfl⟩ | ⟨hne, hy⟩
    · exact hx
    · exact (h.ok j y hy).same (fun b _ => rfl) (fun b _ => rfl) fun b hb => (hB b).2 (.inl hb)
  · rcases get j y hy with ⟨rfl, rfl⟩ | ⟨hne, hy⟩
    · refine ⟨fun e => ?_, (h.fr j x hi b (hs b hb2)).2⟩
      rcases (hB b).1 e with e | e
      · exact (h.fr j x hi b (hs b hb2)).1 e
      · exact e.2 hb2
    · refine ⟨fun e => ?_, (h.fr j y hy b hb2).2⟩
      rcases (hB b).1 e with e | e
      · exact (h.fr j y hy b hb2).1 e
      · exact h.dj j i y x hne hy hi b hb2 e.1
  · rcases get j y hy with ⟨rfl, rfl⟩ | ⟨hne1, hy'⟩
    · rcases get k z hz with ⟨rfl, rfl⟩ | ⟨hne2, hz'⟩
      · exact hne rfl
      · exact h.dj j k x z hne hi hz' b (hs b e1) e2
    · rcases get k z hz with ⟨rfl, rfl⟩ | ⟨hne2, hz⟩
      · exact h.dj j k y x hne hy' hi b e1 (hs b e2)
      · exact h.dj j k y z hne hy' hz b e1 e2
  · rcases (hB b).1 hb with e | e
    · exact h.bl b e
    · exact ⟨(h.ok i x hi).lt b e.1, fun e2 => h.nc b e2 i x hi e.1⟩
  · rcases get j y hy with ⟨rfl, rfl⟩ | ⟨hne1, hy'⟩
    · exact h.nc cb e j x hi (hs cb h2)
    · exact h.nc cb e j y hy' h2
theorem LX.tbc {c : Option Nat} {H0 H : AH} {L : List Ix} {v : Value} {ks : List CK} {n : Nat} {xs : List Value} {V : List CV} (h : LX c H0 H L) (i : Nat) (hi : L[i]? = some (.own (.cmp (.row v ks n xs) V))) : LX c H0 H (L.set i (.tab v ks n xs V)) := by
  obtain ⟨B, h⟩ := h
  obtain ⟨h1, h2⟩ := h.ok i _ hi
  have h1 : OT H v ks n xs := h1
  have hd : ∀ b, (∃ y ∈ xs, blkOf y = some b) → ¬ blkOf v = some b := by
    rintro b ⟨y, hy, hb⟩ e
    obtain ⟨j, hj⟩ := List.mem_iff_getElem?.1 hy
    exact h1.out j y hj b e hb
  refine ⟨fun b => B b ∨ ((blkOf v = some b ∨ ∃ y ∈ xs, blkOf y = some b) ∧ ¬ blkOf v = some b), h.fz2 i hi (fun b => Iff.rfl) ⟨⟨h1.len, h1.row, h1.ok, fun y hy b hb => .inr ⟨.inr ⟨y, hy, hb⟩, hd b ⟨y, hy, hb⟩⟩⟩, h2⟩ fun b hb => .inl hb⟩
theorem LX.nrowsO {c0 : Option Nat} {H0 H H' : AH} {L : List Ix} {v : Value} {n : Nat} {ys : List Value} {rs : List (List Int × List Int)} (h : LX c0 H0 H L) (hv : New H H' v [.r, .r] n ys) (hV : cvs H' ys = rowsV rs) (hf : ∃ K, H' = H ++ K) : LX c0 H0 H' (.tab v [.r, .r] n ys (rowsV rs) :: L) := by
  obtain ⟨B, h⟩ := h
  obtain ⟨K, rfl⟩ := hf
  have : LX c0 H0 (H ++ K) (.own (.cmp (.row v [.r, .r] n ys) (rowsV rs)) :: L) :=
    ⟨B, h.add (by simp) (fun b hb _ => List.getElem?_append_left hb) (fun g e => (h.cur g e).mono) ⟨hv.ot, hV⟩ fun b hb => hv.fr b hb⟩
  exact this.tbc 0 rfl
theorem rows_flat {sb db : List Int} (h : arrOk sb db = true) (hne : sb.length ≠ 0) : flatD (rowsR sb db) = db := by
  obtain ⟨x, tl, e⟩ := List.exists_cons_of_ne_nil (show sb ≠ [] by rintro rfl; exact hne rfl)
  subst e
  obtain ⟨n, rfl, hn3, hm⟩ := arrOk_rows h
  have key : ∀ (m k : Nat), sizeI tl = m → k ≤ n → n * m ≤ db.length → flatD ((List.range k).map fun i => (tl, (db.drop (i * m)).take m)) = db.take (k * m) := by
    intro m k hm hk hl
    induction k with
    | zero => simp [flatD]
    | succ k ih =>
      rw [List.range_succ, List.map_append, List.map_cons, List.map_nil]
      have e2 := ih (by omega)
      unfold flatD at e2 ⊢
      rw [List.flatMap_append, e2]
      simp only [List.flatMap_cons, List.flatMap_nil, List.append_nil]
      rw [Nat.add_mul, Nat.one_mul, List.take_add]
  rcases Nat.eq_zero_or_pos n with h0 | h0
  · subst h0
    have := (scan_zero h hne (by simp [rowsR])).2
    rw [this]; simp [rowsR, flatD]
  · obtain ⟨m, e1, e2, e3⟩ := hm h0
    have := key m n e1 (Nat.le_refl _) (by omega)
    unfold rowsR
    simp only [Int.toNat_natCast, e1]
    rw [this, ← e3, List.take_length]
def iotaL (n : Nat) : List Int := (List.range n).map fun i : Nat => (i : Int)
theorem iotaL_succ {n : Nat} : iotaL (n + 1) = iotaL n ++ [(n : Int)] := by unfold iotaL; rw [List.range_succ, List.map_append, List.map_cons, List.map_nil]
theorem iotaL_len {n : Nat} : (iotaL n).length = n := by simp [iotaL]
def iotaR (sa da : List Int) : (List Int × List Int) × Int :=
  if arrOk sa da = true then (if da.length ≠ 1 then (([], []), 3) else if da.headD 0 < 0 then (([], []), 2) else if 300 < da.headD 0 then (([], []), 6) else (([((iotaL (da.headD 0).toNat).length : Int)], iotaL (da.headD 0).toNat), 0)) else (([], []), 1)

set_option maxHeartbeats 4000000 in
theorem implIota_ok {H : AH} {pa qa : Value} {sa da : List Int} (a : AR H pa qa sa da) : CallsA Try.prog 12 #[.agg #[pa, qa]] H fun r H' => Ans1 H H' r (iotaR sa da) := by
  have al := a.l1
  have bl := a.l2
  obtain ⟨za, zc, zb, zd, rfl, rfl⟩ := a.o1
  have q := (LX.nil (H := H))
  refine w12 ?_
  unfold k12
  simp -implicitDefEqProofs only [kz, kk0, kk1, kk2, kk3, ↓two_true, ↓two_false, mkv, aggAt, Nat.reduceLeDiff, Nat.reduceSub, Nat.reduceMul, implies_true, Nat.reduceEqDiff, reduceIte, Nat.reduceAdd, Nat.reduceBEq, reduceCtorEq, al26, ap24_24, bd26, bs24_1, fa26_1, ix24, ld3, ld24, ld26, ln24, st26]
  refine st_box q fun H1 q1 => ?_
  simp -implicitDefEqProofs only [kz, kk0, kk1, kk2, kk3, ↓two_true, ↓two_false, mkv, aggAt, Nat.reduceLeDiff, Nat.reduceSub, Nat.reduceMul, implies_true, Nat.reduceEqDiff, reduceIte, Nat.reduceAdd, Nat.reduceBEq, reduceCtorEq, al26, ap24_24, bd26, bs24_1, fa26_1, ix24, ld3, ld24, ld26, ln24, st26, q1.rd 0 rfl]
  refine st_box q1 fun H2 q2 => ?_
  simp -implicitDefEqProofs only [kz, kk0, kk1, kk2, kk3, ↓two_true, ↓two_false, mkv, aggAt, Nat.reduceLeDiff, Nat.reduceSub, Nat.reduceMul, implies_true, Nat.reduceEqDiff, reduceIte, Nat.reduceAdd, Nat.reduceBEq, reduceCtorEq, al26, ap24_24, bd26, bs24_1, fa26_1, ix24, ld3, ld24, ld26, ln24, st26, q2.rd 0 rfl, q2.rd 1 rfl]
  refine (implOk_ar (a.ext q2.ext)).mono ?_
  rintro _ H3 ⟨rfl, he1⟩
  have q3 := q2.extd he1
  simp -implicitDefEqProofs only [kz, kk0, kk1, kk2, kk3, ↓two_true, ↓two_false, mkv, aggAt, Nat.reduceLeDiff, Nat.reduceSub, Nat.reduceMul, implies_true, Nat.reduceEqDiff, reduceIte, Nat.reduceAdd, Nat.reduceBEq, reduceCtorEq, al26, ap24_24, bd26, bs24_1, fa26_1, ix24, ld3, ld24, ld26, ln24, st26, q3.rd 0 rfl, q3.rd 1 rfl]
  refine two_intro (fun u1 => ?_) (fun u1 => ?_)
  ·
    have w1 : arrOk sa da = false := by simpa using u1
    try simp -implicitDefEqProofs only [kz, kk0, kk1, kk2, kk3, ↓two_true, ↓two_false, mkv, aggAt, Nat.reduceLeDiff, Nat.reduceSub, Nat.reduceMul, implies_true, Nat.reduceEqDiff, reduceIte, Nat.reduceAdd, Nat.reduceBEq, reduceCtorEq, al26, ap24_24, bd26, bs24_1, fa26_1, ix24, ld3, ld24, ld26, ln24, st26, q3.rd 0 rfl, q3.rd 1 rfl]
    refine st_set q3 0 rfl fun H4 q4 => ?_
    simp only [List.set_cons_zero, List.set_cons_succ] at q4
    simp -implicitDefEqProofs only [kz, kk0, kk1, kk2, kk3, ↓two_true, ↓two_false, mkv, aggAt, Nat.reduceLeDiff, Nat.reduceSub, Nat.reduceMul, implies_true, Nat.reduceEqDiff, reduceIte, Nat.reduceAdd, Nat.reduceBEq, reduceCtorEq, al26, ap24_24, bd26, bs24_1, fa26_1, ix24, ld3, ld24, ld26, ln24, st26, q4.rd 0 rfl, q4.rd 1 rfl]
    -- end1
    exact q4.err (by unfold iotaR; rw [if_neg (by rw [w1]; decide)])
  ·
    have v1 : arrOk sa da = true := by simpa using u1
    try simp -implicitDefEqProofs only [kz, kk0, kk1, kk2, kk3, ↓two_true, ↓two_false, mkv, aggAt, Nat.reduceLeDiff, Nat.reduceSub, Nat.reduceMul, implies_true, Nat.reduceEqDiff, reduceIte, Nat.reduceAdd, Nat.reduceBEq, reduceCtorEq, al26, ap24_24, bd26, bs24_1, fa26_1, ix24, ld3, ld24, ld26, ln24, st26, q3.rd 0 rfl, q3.rd 1 rfl]
    refine two_intro (fun u2 => ?_) (fun u2 => ?_)
    ·
      have v2 : da.length ≠ 1 := by have h5 : ¬ (da.length : Int) = 1 := (by simpa using u2); omega
      try simp -implicitDefEqProofs only [kz, kk0, kk1, kk2, kk3, ↓two_true, ↓two_false, mkv, aggAt, Nat.reduceLeDiff, Nat.reduceSub, Nat.reduceMul, implies_true, Nat.reduceEqDiff, reduceIte, Nat.reduceAdd, Nat.reduceBEq, reduceCtorEq, al26, ap24_24, bd26, bs24_1, fa26_1, ix24, ld3, ld24, ld26, ln24, st26, q3.rd 0 rfl, q3.rd 1 rfl]
      refine st_set q3 0 rfl fun H5 q5 => ?_
      simp only [List.set_cons_zero, List.set_cons_succ] at q5
      simp -implicitDefEqProofs only [kz, kk0, kk1, kk2, kk3, ↓two_true, ↓two_false, mkv, aggAt, Nat.reduceLeDiff, Nat.reduceSub, Nat.reduceMul, implies_true, Nat.reduceEqDiff, reduceIte, Nat.reduceAdd, Nat.reduceBEq, reduceCtorEq, al26, ap24_24, bd26, bs24_1, fa26_1, ix24, ld3, ld24, ld26, ln24, st26, q5.rd 0 rfl, q5.rd 1 rfl]
      -- end2
      exact q5.err (by unfold iotaR; rw [if_pos v1, if_pos v2])
    ·
      have v2 : da.length = 1 := by have h5 : (da.length : Int) = 1 := (by simpa using u2); omega
      have h0 : 0 < da.length := by omega
      obtain ⟨b1, o1, cs1, ei1, fr1, fc1⟩ := ixI0 (a.od.ext q3.ext) (List.getElem?_eq_getElem h0)
      try simp -implicitDefEqProofs only [kz, kk0, kk1, kk2, kk3, ↓two_true, ↓two_false, mkv, aggAt, Nat.reduceLeDiff, Nat.reduceSub, Nat.reduceMul, implies_true, Nat.reduceEqDiff, reduceIte, Nat.reduceAdd, Nat.reduceBEq, reduceCtorEq, al26, ap24_24, bd26, bs24_1, fa26_1, ix24, ld3, ld24, ld26, ln24, st26, ei1, fr1, fc1, q3.rd 0 rfl, q3.rd 1 rfl]
      refine two_intro (fun u3 => ?_) (fun u3 => ?_)
      ·
        have v3 : da[0] < 0 := by simpa using u3
        try simp -implicitDefEqProofs only [kz, kk0, kk1, kk2, kk3, ↓two_true, ↓two_false, mkv, aggAt, Nat.reduceLeDiff, Nat.reduceSub, Nat.reduceMul, implies_true, Nat.reduceEqDiff, reduceIte, Nat.reduceAdd, Nat.reduceBEq, reduceCtorEq, al26, ap24_24, bd26, bs24_1, fa26_1, ix24, ld3, ld24, ld26, ln24, st26, ei1, fr1, fc1, q3.rd 0 rfl, q3.rd 1 rfl]
        refine st_set q3 0 rfl fun H6 q6 => ?_
        simp only [List.set_cons_zero, List.set_cons_succ] at q6
        simp -implicitDefEqProofs only [kz, kk0, kk1, kk2, kk3, ↓two_true, ↓two_false, mkv, aggAt, Nat.reduceLeDiff, Nat.reduceSub, Nat.reduceMul, implies_true, Nat.reduceEqDiff, reduceIte, Nat.reduceAdd, Nat.reduceBEq, reduceCtorEq, al26, ap24_24, bd26, bs24_1, fa26_1, ix24, ld3, ld24, ld26, ln24, st26, q6.rd 0 rfl, q6.rd 1 rfl]
        -- end3
        exact q6.err (by unfold iotaR; rw [if_pos v1, if_neg (fun h => h v2), if_pos (by rw [headD_get h0]; exact v3)])
      ·
        obtain ⟨n, hn⟩ : ∃ n : Nat, da[0] = (n : Int) := ⟨da[0].toNat, by have h5 : ¬ da[0] < 0 := (by simpa using u3); omega⟩
        have hh : da.headD 0 = (n : Int) := by rw [headD_get h0, hn]
        obtain ⟨b2, o2, cs2, ei2, fr2, fc2⟩ := ixI0 (a.od.ext q3.ext) (List.getElem?_eq_getElem h0)
        try simp -implicitDefEqProofs only [kz, kk0, kk1, kk2, kk3, ↓two_true, ↓two_false, mkv, aggAt, Nat.reduceLeDiff, Nat.reduceSub, Nat.reduceMul, implies_true, Nat.reduceEqDiff, reduceIte, Nat.reduceAdd, Nat.reduceBEq, reduceCtorEq, al26, ap24_24, bd26, bs24_1, fa26_1, ix24, ld3, ld24, ld26, ln24, st26, hn, ei1, fr1, fc1, ei2, fr2, fc2, q3.rd 0 rfl, q3.rd 1 rfl]
        refine two_intro (fun u4 => ?_) (fun u4 => ?_)
        ·
          have v4 : 300 < (n : Int) := of_decide_eq_true u4
          try simp -implicitDefEqProofs only [kz, kk0, kk1, kk2, kk3, ↓two_true, ↓two_false, mkv, aggAt, Nat.reduceLeDiff, Nat.reduceSub, Nat.reduceMul, implies_true, Nat.reduceEqDiff, reduceIte, Nat.reduceAdd, Nat.reduceBEq, reduceCtorEq, al26, ap24_24, bd26, bs24_1, fa26_1, ix24, ld3, ld24, ld26, ln24, st26, hn, ei1, fr1, fc1, ei2, fr2, fc2, q3.rd 0 rfl, q3.rd 1 rfl]
          refine st_set q3 0 rfl fun H7 q7 => ?_
          simp only [List.set_cons_zero, List.set_cons_succ] at q7
          simp -implicitDefEqProofs only [kz, kk0, kk1, kk2, kk3, ↓two_true, ↓two_false, mkv, aggAt, Nat.reduceLeDiff, Nat.reduceSub, Nat.reduceMul, implies_true, Nat.reduceEqDiff, reduceIte, Nat.reduceAdd, Nat.reduceBEq, reduceCtorEq, al26, ap24_24, bd26, bs24_1, fa26_1, ix24, ld3, ld24, ld26, ln24, st26, hn, q7.rd 0 rfl, q7.rd 1 rfl]
          -- end4
          exact q7.err (by unfold iotaR; rw [if_pos v1, if_neg (fun h => h v2), if_neg (by omega), if_pos (by omega)])
        ·
          have v4 : n ≤ 300 := by have h5 := of_decide_eq_false u4; omega
          try simp -implicitDefEqProofs only [kz, kk0, kk1, kk2, kk3, ↓two_true, ↓two_false, mkv, aggAt, Nat.reduceLeDiff, Nat.reduceSub, Nat.reduceMul, implies_true, Nat.reduceEqDiff, reduceIte, Nat.reduceAdd, Nat.reduceBEq, reduceCtorEq, al26, ap24_24, bd26, bs24_1, fa26_1, ix24, ld3, ld24, ld26, ln24, st26, hn, ei1, fr1, fc1, ei2, fr2, fc2, q3.rd 0 rfl, q3.rd 1 rfl]
          have q8 := q3.nil0
          refine rW_loopQ (σ := Nat × Value) q8 [1, 2, 3] (fun x tm => tm 5 = .int .i64 x.1 ∧ tm 4 = x.2 ∧ x.1 ≤ n) (fun x L => L.set 0 (.own (.row x.2 (iotaL x.1)))) (fun x => n - x.1) (0, _) ⟨rfl, by first | rfl | assumption, Nat.zero_le _⟩ rfl ?_
          rintro ⟨i, ov⟩ tm1 H8 ⟨lv1, lv2, lv3, -⟩ ⟨ki, ko, hi⟩ q9
          simp -implicitDefEqProofs only [kz, kk0, kk1, kk2, kk3, ↓two_true, ↓two_false, mkv, aggAt, Nat.reduceLeDiff, Nat.reduceSub, Nat.reduceMul, implies_true, Nat.reduceEqDiff, reduceIte, Nat.reduceAdd, Nat.reduceBEq, reduceCtorEq, al26, ap24_24, bd26, bs24_1, fa26_1, ix24, ld3, ld24, ld26, ln24, st26, hn] at lv1 lv2 lv3
          simp only [List.set_cons_zero, List.set_cons_succ] at q9
          simp only at ki ko hi
          have wi : IntKind.i64.wrap ((i : Int) + 1) = ((i + 1 : Nat) : Int) := IntWalk.i64_in ((i : Int) + 1) (by omega)
          obtain ⟨a1, c1, rfl⟩ := (q9.own 0 rfl).isSlice
          obtain ⟨b3, o3, cs3, ei3, fr3, fc3⟩ := ixI0 (a.od.ext q9.ext) (List.getElem?_eq_getElem h0)
          simp -implicitDefEqProofs only [kz, kk0, kk1, kk2, kk3, ↓two_true, ↓two_false, mkv, aggAt, Nat.reduceLeDiff, Nat.reduceSub, Nat.reduceMul, implies_true, Nat.reduceEqDiff, reduceIte, Nat.reduceAdd, Nat.reduceBEq, reduceCtorEq, al26, ap24_24, bd26, bs24_1, fa26_1, ix24, ld3, ld24, ld26, ln24, st26, hn, ei3, fr3, fc3, lv1, lv2, lv3, ki, ko, wi, q9.rd 1 rfl, q9.rd 2 rfl]
          refine two_intro (fun u5 => ?_) (fun u5 => ?_)
          ·
            have hi2 : i < n := by have h5 := of_decide_eq_true u5; omega
            try simp -implicitDefEqProofs only [kz, kk0, kk1, kk2, kk3, ↓two_true, ↓two_false, mkv, aggAt, Nat.reduceLeDiff, Nat.reduceSub, Nat.reduceMul, implies_true, Nat.reduceEqDiff, reduceIte, Nat.reduceAdd, Nat.reduceBEq, reduceCtorEq, al26, ap24_24, bd26, bs24_1, fa26_1, ix24, ld3, ld24, ld26, ln24, st26, hn, ei3, fr3, fc3, lv1, lv2, lv3, ki, ko, wi, q9.rd 1 rfl, q9.rd 2 rfl]
            refine st_lit [(i : Int)] rfl rfl q9 fun H9 q10 => ?_
            simp -implicitDefEqProofs only [kz, kk0, kk1, kk2, kk3, ↓two_true, ↓two_false, mkv, aggAt, Nat.reduceLeDiff, Nat.reduceSub, Nat.reduceMul, implies_true, Nat.reduceEqDiff, reduceIte, Nat.reduceAdd, Nat.reduceBEq, reduceCtorEq, al26, ap24_24, bd26, bs24_1, fa26_1, ix24, ld3, ld24, ld26, ln24, st26, hn, lv1, lv2, lv3, ki, ko, wi, q10.rd 2 rfl, q10.rd 3 rfl]
            refine st_app q10 1 rfl (q10.int 0 rfl) (by rw [iotaL_len]; simp; omega) fun a2 c2 H10 q11 => ?_
            simp only [List.set_cons_zero, List.set_cons_succ, List.length_nil, List.length_cons, Nat.zero_add, List.nil_append] at q11 ⊢
            simp -implicitDefEqProofs only [kz, kk0, kk1, kk2, kk3, ↓two_true, ↓two_false, mkv, aggAt, Nat.reduceLeDiff, Nat.reduceSub, Nat.reduceMul, implies_true, Nat.reduceEqDiff, reduceIte, Nat.reduceAdd, Nat.reduceBEq, reduceCtorEq, al26, ap24_24, bd26, bs24_1, fa26_1, ix24, ld3, ld24, ld26, ln24, st26, hn, lv1, lv2, lv3, ki, ko, wi, q11.rd 2 rfl, q11.rd 3 rfl]
            -- back loop1
            refine ⟨(i + 1, _), (by simp only; omega), ⟨rfl, rfl, rfl, trivial⟩, ⟨by first | rfl | simp, rfl, hi2⟩, ?_⟩
            simp only [List.set_cons_zero, List.set_cons_succ, iotaL_succ]
            exact q11.pick [1, 2, 3] _ rfl (by decide)
          ·
            have hil : i = n := Nat.le_antisymm hi (by have h5 := of_decide_eq_false u5; omega)
            subst hil
            try simp -implicitDefEqProofs only [kz, kk0, kk1, kk2, kk3, ↓two_true, ↓two_false, mkv, aggAt, Nat.reduceLeDiff, Nat.reduceSub, Nat.reduceMul, implies_true, Nat.reduceEqDiff, reduceIte, Nat.reduceAdd, Nat.reduceBEq, reduceCtorEq, al26, ap24_24, bd26, bs24_1, fa26_1, ix24, ld3, ld24, ld26, ln24, st26, hn, ei3, fr3, fc3, lv1, lv2, lv3, ki, ko, wi, q9.rd 1 rfl, q9.rd 2 rfl]
            refine (vector_ok (q9.int 0 rfl) (by rw [iotaL_len]; omega) ).mono ?_
            rintro _ H11 ⟨p1, p2, rfl, g1⟩
            have q12 := q9.join g1
            simp only [List.map_cons, List.map_nil, List.cons_append, List.nil_append] at q12
            obtain ⟨a3, c3, rfl⟩ := (q12.own 0 rfl).isSlice
            obtain ⟨a4, c4, rfl⟩ := (q12.own 1 rfl).isSlice
            simp -implicitDefEqProofs only [kz, kk0, kk1, kk2, kk3, ↓two_true, ↓two_false, mkv, aggAt, Nat.reduceLeDiff, Nat.reduceSub, Nat.reduceMul, implies_true, Nat.reduceEqDiff, reduceIte, Nat.reduceAdd, Nat.reduceBEq, reduceCtorEq, al26, ap24_24, bd26, bs24_1, fa26_1, ix24, ld3, ld24, ld26, ln24, st26, hn, lv1, lv2, lv3, ki, ko, wi, q12.rd 3 rfl, q12.rd 4 rfl]
            refine st_set q12 3 rfl fun H12 q13 => ?_
            simp only [List.set_cons_zero, List.set_cons_succ] at q13
            simp -implicitDefEqProofs only [kz, kk0, kk1, kk2, kk3, ↓two_true, ↓two_false, mkv, aggAt, Nat.reduceLeDiff, Nat.reduceSub, Nat.reduceMul, implies_true, Nat.reduceEqDiff, reduceIte, Nat.reduceAdd, Nat.reduceBEq, reduceCtorEq, al26, ap24_24, bd26, bs24_1, fa26_1, ix24, ld3, ld24, ld26, ln24, st26, hn, lv1, lv2, lv3, ki, ko, wi, q13.rd 3 rfl, q13.rd 4 rfl]
            -- end5
            exact q13.ans 0 1 (by decide) rfl rfl (by unfold iotaR; rw [if_pos v1, if_neg (fun h => h v2), if_neg (by omega), if_neg (by omega), hh]; rfl)

def idxQ (sh : List Int) (p j : Nat) : Nat := p / (prodI (sh.drop j)).toNat
def idxV (sh : List Int) (p j : Nat) : Nat := idxQ sh p (j + 1) % (sh.getD j 0).toNat
def idxG (sh : List Int) (p j : Nat) : List Int := (List.range sh.length).map fun i => if i < j then 0 else (idxV sh p i : Int)
theorem flat_zeroI {w : Nat} : (List.replicate w [Value.int .i64 0]).flatten = ints (List.replicate w 0) := by
  induction w with
  | zero => rfl
  | succ w ih => rw [List.replicate_succ, List.flatten_cons, ih]; simp [ints, List.replicate_succ]
theorem idxG_len {sh : List Int} {p j : Nat} : (idxG sh p j).length = sh.length := by simp [idxG]
theorem idxG_top {sh : List Int} {p : Nat} : idxG sh p sh.length = List.replicate sh.length 0 := by
  refine List.ext_getElem (by simp [idxG]) fun i h1 h2 => ?_
  rw [idxG_len] at h1
  simp [idxG, h1]
theorem idxG_set {sh : List Int} {p j : Nat} (h : j < sh.length) : (idxG sh p (j + 1)).set j (idxV sh p j : Int) = idxG sh p j := by
  refine List.ext_getElem (by simp [idxG]) fun i h1 h2 => ?_
  rw [idxG_len] at h2
  rw [List.getElem_set]
  simp only [idxG, List.getElem_map, List.getElem_range]
  by_cases e : j = i
  · subst e; rw [if_pos rfl, if_neg (by omega)]
  · rw [if_neg e]
    by_cases e2 : i < j
    · rw [if_pos (by omega), if_pos e2]
    · rw [if_neg (by omega), if_neg e2]
set_option maxHeartbeats 4000000 in
theorem idxQ_step {sh : List Int} {p j : Nat} (h : j < sh.length) (hn : ∀ x ∈ sh, ∃ n : Nat, x = n) : idxQ sh p j = idxQ sh p (j + 1) / (sh.getD j 0).toNat := by
  unfold idxQ
  rw [List.drop_eq_getElem_cons h, prodI_cons, getD_lt h, Nat.div_div_eq_div_mul]
  obtain ⟨n, e⟩ := hn _ (List.getElem_mem h)
  have hp : ∀ l : List Int, (∀ x ∈ l, ∃ n : Nat, x = n) → ∃ m : Nat, prodI l = m := by
    intro l
    induction l with
    | nil => intro _; exact ⟨1, rfl⟩
    | cons y l ih =>
      intro hl
      obtain ⟨a, ea⟩ := hl y (by simp); subst ea
      obtain ⟨m, e⟩ := ih fun x hx => hl x (by simp [hx])
      exact ⟨a * m, by rw [prodI_cons, e, Int.natCast_mul]⟩
  obtain ⟨m, e2⟩ := hp (sh.drop (j + 1)) fun x hx => hn x (List.mem_of_mem_drop hx)
  rw [e, e2, ← Int.natCast_mul, Int.toNat_natCast, Int.toNat_natCast, Int.toNat_natCast, Nat.mul_comm]
theorem idxQ_top {sh : List Int} {p : Nat} : idxQ sh p sh.length = p := by unfold idxQ; rw [List.drop_length]; simp [prodI]
theorem prod_zero {l : List Int} (h : (0 : Int) ∈ l) : prodI l = 0 := by
  induction l with
  | nil => simp at h
  | cons x l ih =>
    rw [prodI_cons]
    rcases List.mem_cons.1 h with e | e
    · rw [← e, Int.zero_mul]
    · rw [ih e, Int.mul_zero]

set_option maxHeartbeats 4000000 in
theorem implIndexOf_ok {H : AH} {va : Value} {sh : List Int} {p : Nat} (ha : IntRow H va sh) (hl : sh.length ≤ 1048576) (hp : (p : Int) < sizeI sh) : CallsA Try.prog 31 #[va, .int .i64 p] H fun r H' => AnsI H H' r (idxG sh p 0) := by
  obtain ⟨xa, xc, rfl, -⟩ := ha.op
  obtain ⟨e1, e2, e3⟩ := sizeI_ok (l := sh) (by omega)
  have hn : ∀ x ∈ sh, ∃ n : Nat, x = n ∧ n ≤ 300 := fun x hx => by
    have := inB_true.1 (List.all_eq_true.1 e2 x hx)
    exact ⟨x.toNat, by omega, by omega⟩
  have hn0 : ∀ x ∈ sh, x ≠ 0 := fun x hx e => by
    have := prod_zero (e ▸ hx); omega
  have hle := sizeI_le (l := sh)
  have wsz : IntKind.i64.wrap (sizeI sh - 1) = sizeI sh - 1 := IntWalk.i64_in _ (by omega)
  have hin : inB (p : Int) 0 (sizeI sh - 1) = true := inB_true.2 (by omega)
  have hso : decide (sizeI sh ≥ 0) = true := by simp; omega
  have hw : 0 ≤ (sh.length : Int) ∧ (sh.length : Int) ≤ 1073741824 := by omega
  have wl : IntKind.i64.wrap ((sh.length : Int) - 1) = (sh.length : Int) - 1 := IntWalk.i64_in _ (by omega)
  have q := (LX.nil (H := H))
  refine w31 ?_
  unfold k31
  have es1 := fun Φ => (implSizeOf_ok (ha.ext q.ext) (by omega)).eq0 (Φ := Φ)
  simp -implicitDefEqProofs only [kz, kk0, kk1, kk2, kk3, ↓two_true, ↓two_false, mkv, aggAt, Nat.reduceLeDiff, Nat.reduceSub, Nat.reduceMul, implies_true, Nat.reduceEqDiff, reduceIte, Nat.reduceAdd, Nat.reduceBEq, reduceCtorEq, ix24, ld3, ln24, ms24, st3, within_eq, wsz, hin, hso, Bool.not_true, if_pos hw, Int.toNat_natCast, wl, es1]
  refine st_lit (List.replicate sh.length 0) flat_zeroI (by simp) q fun H1 q1 => ?_
  simp -implicitDefEqProofs only [kz, kk0, kk1, kk2, kk3, ↓two_true, ↓two_false, mkv, aggAt, Nat.reduceLeDiff, Nat.reduceSub, Nat.reduceMul, implies_true, Nat.reduceEqDiff, reduceIte, Nat.reduceAdd, Nat.reduceBEq, reduceCtorEq, ix24, ld3, ln24, ms24, st3, within_eq, wsz, hin, hso, Bool.not_true, if_pos hw, Int.toNat_natCast, wl, es1]
  refine rW_loopQ (σ := Nat) q1 [0, 4, 5] (fun x tm => tm 6 = .int .i64 ((x : Int) - 1) ∧ tm 1 = .int .i64 (idxQ sh p x) ∧ x ≤ sh.length) (fun x L => L.set 0 (.own (.row (.slice (some ⟨H.length, 0, none⟩) sh.length 1) (idxG sh p x)))) (fun x => x) sh.length ⟨rfl, by rw [idxQ_top]; first | rfl | assumption, Nat.le_refl _⟩ (by simp only [idxG_top]; rfl) ?_
  rintro j tm1 H2 ⟨lv1, lv2, lv3, -⟩ ⟨kj, kp, hj⟩ q2
  simp -implicitDefEqProofs only [kz, kk0, kk1, kk2, kk3, ↓two_true, ↓two_false, mkv, aggAt, Nat.reduceLeDiff, Nat.reduceSub, Nat.reduceMul, implies_true, Nat.reduceEqDiff, reduceIte, Nat.reduceAdd, Nat.reduceBEq, reduceCtorEq, ix24, ld3, ln24, ms24, st3, es1] at lv1 lv2 lv3
  simp only [List.set_cons_zero, List.set_cons_succ] at q2
  simp -implicitDefEqProofs only [kz, kk0, kk1, kk2, kk3, ↓two_true, ↓two_false, mkv, aggAt, Nat.reduceLeDiff, Nat.reduceSub, Nat.reduceMul, implies_true, Nat.reduceEqDiff, reduceIte, Nat.reduceAdd, Nat.reduceBEq, reduceCtorEq, ix24, ld3, ln24, ms24, st3, within_eq, wsz, hin, hso, Bool.not_true, if_pos hw, Int.toNat_natCast, wl, es1, lv1, lv2, lv3, kj, kp]
  refine two_intro (fun u1 => ?_) (fun u1 => ?_)
  ·
    have hj0 : 0 < j := by have h5 := of_decide_eq_true u1; omega
    obtain ⟨i, rfl⟩ : ∃ i, j = i + 1 := ⟨j - 1, by omega⟩
    have hi : i < sh.length := by omega
    have eJ : ((i + 1 : Nat) : Int) - 1 = (i : Int) := by omega
    obtain ⟨ni, hni, hni3⟩ := hn _ (List.getElem_mem hi)
    have hni0 : (ni : Int) ≠ 0 := by rw [← hni]; exact hn0 _ (List.getElem_mem hi)
    have hgd : (sh.getD i 0).toNat = ni := by rw [getD_lt hi, hni]; simp
    have wr : ((idxQ sh p (i + 1) : Nat) : Int).tmod (ni : Int) = ((idxV sh p i : Nat) : Int) := by unfold idxV; rw [hgd, Int.tmod_eq_emod_of_nonneg (by omega)]; rfl
    have wq : ((idxQ sh p (i + 1) : Nat) : Int).tdiv (ni : Int) = ((idxQ sh p i : Nat) : Int) := by rw [idxQ_step hi (fun x hx => (hn x hx).imp fun _ h => h.1), hgd, Int.tdiv_eq_ediv_of_nonneg (by omega)]; rfl
    have hql : idxQ sh p i ≤ p := Nat.div_le_self _ _
    have wq1 : IntKind.i64.wrap ((idxQ sh p i : Nat) : Int) = ((idxQ sh p i : Nat) : Int) := IntWalk.i64_in _ (by omega)
    have wi : IntKind.i64.wrap ((i : Int) - 1) = (i : Int) - 1 := IntWalk.i64_in _ (by omega)
    obtain ⟨b1, o1, cs1, ei1, fr1, fc1⟩ := ixI (ha.ext q2.ext) (i := i) hi
    obtain ⟨b2, o2, cs2, ei2, fw1, fr2, fl1, fc2, qw1⟩ := q2.wrI 0 rfl (k := i) (by rw [idxG_len]; exact hi)
    try simp -implicitDefEqProofs only [kz, kk0, kk1, kk2, kk3, ↓two_true, ↓two_false, mkv, aggAt, Nat.reduceLeDiff, Nat.reduceSub, Nat.reduceMul, implies_true, Nat.reduceEqDiff, reduceIte, Nat.reduceAdd, Nat.reduceBEq, reduceCtorEq, ix24, ld3, ln24, ms24, st3, within_eq, wsz, hin, hso, Bool.not_true, if_pos hw, Int.toNat_natCast, wl, es1, eJ, hni, bin_rem hni0, bin_quo hni0, wr, wq, wq1, wi, ei1, fr1, fc1, ei2, fw1, fr2, fl1, fc2, lv1, lv2, lv3, kj, kp]
    refine st_q (qw1 _) fun H3 q3 => ?_
    simp only [List.set_cons_zero, List.set_cons_succ] at q3
    obtain ⟨b3, o3, cs3, ei3, fr3, fc3⟩ := ixI (ha.ext q3.ext) (i := i) hi
    simp -implicitDefEqProofs only [kz, kk0, kk1, kk2, kk3, ↓two_true, ↓two_false, mkv, aggAt, Nat.reduceLeDiff, Nat.reduceSub, Nat.reduceMul, implies_true, Nat.reduceEqDiff, reduceIte, Nat.reduceAdd, Nat.reduceBEq, reduceCtorEq, ix24, ld3, ln24, ms24, st3, within_eq, wsz, hin, hso, Bool.not_true, if_pos hw, Int.toNat_natCast, wl, es1, eJ, hni, bin_rem hni0, bin_quo hni0, wr, wq, wq1, wi, ei3, fr3, fc3, lv1, lv2, lv3, kj, kp]
    -- back loop1
    refine ⟨i, (by omega), ⟨rfl, rfl, rfl, trivial⟩, ⟨by first | rfl | simp, by first | rfl | simp, by omega⟩, ?_⟩
    try simp only [List.set_cons_zero, List.set_cons_succ]
    rw [← idxG_set hi]
    exact q3
  ·
    have hj0 : j = 0 := by have h5 := of_decide_eq_false u1; omega
    subst hj0
    try simp -implicitDefEqProofs only [kz, kk0, kk1, kk2, kk3, ↓two_true, ↓two_false, mkv, aggAt, Nat.reduceLeDiff, Nat.reduceSub, Nat.reduceMul, implies_true, Nat.reduceEqDiff, reduceIte, Nat.reduceAdd, Nat.reduceBEq, reduceCtorEq, ix24, ld3, ln24, ms24, st3, within_eq, wsz, hin, hso, Bool.not_true, if_pos hw, Int.toNat_natCast, wl, es1, lv1, lv2, lv3, kj, kp]
    -- end1
    exact q2.ansI 0 rfl rfl

set_option maxHeartbeats 4000000 in
theorem specIndexOf_ok {H : AH} {va : Value} {sh : List Int} {p : Nat} (ha : IntRow H va sh) (hl : sh.length ≤ 1048576) (hp : (p : Int) < sizeI sh) : CallsA Try.prog 36 #[va, .int .i64 p] H fun r H' => AnsI H H' r (idxG sh p 0) := by
  obtain ⟨xa, xc, rfl, -⟩ := ha.op
  obtain ⟨e1, e2, e3⟩ := sizeI_ok (l := sh) (by omega)
  have hn : ∀ x ∈ sh, ∃ n : Nat, x = n ∧ n ≤ 300 := fun x hx => by
    have := inB_true.1 (List.all_eq_true.1 e2 x hx)
    exact ⟨x.toNat, by omega, by omega⟩
  have hn0 : ∀ x ∈ sh, x ≠ 0 := fun x hx e => by
    have := prod_zero (e ▸ hx); omega
  have hle := sizeI_le (l := sh)
  have wsz : IntKind.i64.wrap (sizeI sh - 1) = sizeI sh - 1 := IntWalk.i64_in _ (by omega)
  have hin : inB (p : Int) 0 (sizeI sh - 1) = true := inB_true.2 (by omega)
  have hso : decide (sizeI sh ≥ 0) = true := by simp; omega
  have hw : 0 ≤ (sh.length : Int) ∧ (sh.length : Int) ≤ 1073741824 := by omega
  have wl : IntKind.i64.wrap ((sh.length : Int) - 1) = (sh.length : Int) - 1 := IntWalk.i64_in _ (by omega)
  have q := (LX.nil (H := H))
  refine w36 ?_
  unfold k36
  have es1 := fun Φ => (specShapeOk_ok (ha.ext q.ext) (by omega)).eq0 (Φ := Φ)
  have es2 := fun Φ => (specSizeOf_ok (ha.ext q.ext) (by omega)).eq0 (Φ := Φ)
  simp -implicitDefEqProofs only [kz, kk0, kk1, kk2, kk3, ↓two_true, ↓two_false, mkv, aggAt, Nat.reduceLeDiff, Nat.reduceSub, Nat.reduceMul, implies_true, Nat.reduceEqDiff, reduceIte, Nat.reduceAdd, Nat.reduceBEq, reduceCtorEq, bs24_0, ix24, ld3, ln24, ms24, st3, l1In_eq, wsz, hin, hso, Bool.not_true, if_pos hw, Int.toNat_natCast, wl, es1, es2]
  refine st_lit (List.replicate sh.length 0) flat_zeroI (by simp) q fun H1 q1 => ?_
  simp -implicitDefEqProofs only [kz, kk0, kk1, kk2, kk3, ↓two_true, ↓two_false, mkv, aggAt, Nat.reduceLeDiff, Nat.reduceSub, Nat.reduceMul, implies_true, Nat.reduceEqDiff, reduceIte, Nat.reduceAdd, Nat.reduceBEq, reduceCtorEq, bs24_0, ix24, ld3, ln24, ms24, st3, l1In_eq, wsz, hin, hso, Bool.not_true, if_pos hw, Int.toNat_natCast, wl, es1, es2]
  refine rW_loopQ (σ := Nat) q1 [0, 4, 5] (fun x tm => tm 6 = .int .i64 ((x : Int) - 1) ∧ tm 1 = .int .i64 (idxQ sh p x) ∧ x ≤ sh.length) (fun x L => L.set 0 (.own (.row (.slice (some ⟨H.length, 0, none⟩) sh.length 1) (idxG sh p x)))) (fun x => x) sh.length ⟨rfl, by rw [idxQ_top]; first | rfl | assumption, Nat.le_refl _⟩ (by simp only [idxG_top]; rfl) ?_
  rintro j tm1 H2 ⟨lv1, lv2, lv3, -⟩ ⟨kj, kp, hj⟩ q2
  simp -implicitDefEqProofs only [kz, kk0, kk1, kk2, kk3, ↓two_true, ↓two_false, mkv, aggAt, Nat.reduceLeDiff, Nat.reduceSub, Nat.reduceMul, implies_true, Nat.reduceEqDiff, reduceIte, Nat.reduceAdd, Nat.reduceBEq, reduceCtorEq, bs24_0, ix24, ld3, ln24, ms24, st3, es1, es2] at lv1 lv2 lv3
  simp only [List.set_cons_zero, List.set_cons_succ] at q2
  simp -implicitDefEqProofs only [kz, kk0, kk1, kk2, kk3, ↓two_true, ↓two_false, mkv, aggAt, Nat.reduceLeDiff, Nat.reduceSub, Nat.reduceMul, implies_true, Nat.reduceEqDiff, reduceIte, Nat.reduceAdd, Nat.reduceBEq, reduceCtorEq, bs24_0, ix24, ld3, ln24, ms24, st3, l1In_eq, wsz, hin, hso, Bool.not_true, if_pos hw, Int.toNat_natCast, wl, es1, es2, lv1, lv2, lv3, kj, kp]
  refine two_intro (fun u1 => ?_) (fun u1 => ?_)
  ·
    have hj0 : 0 < j := by have h5 := of_decide_eq_true u1; omega
    obtain ⟨i, rfl⟩ : ∃ i, j = i + 1 := ⟨j - 1, by omega⟩
    have hi : i < sh.length := by omega
    have eJ : ((i + 1 : Nat) : Int) - 1 = (i : Int) := by omega
    obtain ⟨ni, hni, hni3⟩ := hn _ (List.getElem_mem hi)
    have hni0 : (ni : Int) ≠ 0 := by rw [← hni]; exact hn0 _ (List.getElem_mem hi)
    have hgd : (sh.getD i 0).toNat = ni := by rw [getD_lt hi, hni]; simp
    have wr : ((idxQ sh p (i + 1) : Nat) : Int).tmod (ni : Int) = ((idxV sh p i : Nat) : Int) := by unfold idxV; rw [hgd, Int.tmod_eq_emod_of_nonneg (by omega)]; rfl
    have wq : ((idxQ sh p (i + 1) : Nat) : Int).tdiv (ni : Int) = ((idxQ sh p i : Nat) : Int) := by rw [idxQ_step hi (fun x hx => (hn x hx).imp fun _ h => h.1), hgd, Int.tdiv_eq_ediv_of_nonneg (by omega)]; rfl
    have hql : idxQ sh p i ≤ p := Nat.div_le_self _ _
    have wq1 : IntKind.i64.wrap ((idxQ sh p i : Nat) : Int) = ((idxQ sh p i : Nat) : Int) := IntWalk.i64_in _ (by omega)
    have wi : IntKind.i64.wrap ((i : Int) - 1) = (i : Int) - 1 := IntWalk.i64_in _ (by omega)
    obtain ⟨b1, o1, cs1, ei1, fr1, fc1⟩ := ixI (ha.ext q2.ext) (i := i) hi
    obtain ⟨b2, o2, cs2, ei2, fw1, fr2, fl1, fc2, qw1⟩ := q2.wrI 0 rfl (k := i) (by rw [idxG_len]; exact hi)
    try simp -implicitDefEqProofs only [kz, kk0, kk1, kk2, kk3, ↓two_true, ↓two_false, mkv, aggAt, Nat.reduceLeDiff, Nat.reduceSub, Nat.reduceMul, implies_true, Nat.reduceEqDiff, reduceIte, Nat.reduceAdd, Nat.reduceBEq, reduceCtorEq, bs24_0, ix24, ld3, ln24, ms24, st3, l1In_eq, wsz, hin, hso, Bool.not_true, if_pos hw, Int.toNat_natCast, wl, es1, es2, eJ, hni, bin_rem hni0, bin_quo hni0, wr, wq, wq1, wi, ei1, fr1, fc1, ei2, fw1, fr2, fl1, fc2, lv1, lv2, lv3, kj, kp]
    refine st_q (qw1 _) fun H3 q3 => ?_
    simp only [List.set_cons_zero, List.set_cons_succ] at q3
    obtain ⟨b3, o3, cs3, ei3, fr3, fc3⟩ := ixI (ha.ext q3.ext) (i := i) hi
    simp -implicitDefEqProofs only [kz, kk0, kk1, kk2, kk3, ↓two_true, ↓two_false, mkv, aggAt, Nat.reduceLeDiff, Nat.reduceSub, Nat.reduceMul, implies_true, Nat.reduceEqDiff, reduceIte, Nat.reduceAdd, Nat.reduceBEq, reduceCtorEq, bs24_0, ix24, ld3, ln24, ms24, st3, l1In_eq, wsz, hin, hso, Bool.not_true, if_pos hw, Int.toNat_natCast, wl, es1, es2, eJ, hni, bin_rem hni0, bin_quo hni0, wr, wq, wq1, wi, ei3, fr3, fc3, lv1, lv2, lv3, kj, kp]
    -- back loop1
    refine ⟨i, (by omega), ⟨rfl, rfl, rfl, trivial⟩, ⟨by first | rfl | simp, by first | rfl | simp, by omega⟩, ?_⟩
    try simp only [List.set_cons_zero, List.set_cons_succ]
    rw [← idxG_set hi]
    exact q3
  ·
    have hj0 : j = 0 := by have h5 := of_decide_eq_false u1; omega
    subst hj0
    try simp -implicitDefEqProofs only [kz, kk0, kk1, kk2, kk3, ↓two_true, ↓two_false, mkv, aggAt, Nat.reduceLeDiff, Nat.reduceSub, Nat.reduceMul, implies_true, Nat.reduceEqDiff, reduceIte, Nat.reduceAdd, Nat.reduceBEq, reduceCtorEq, bs24_0, ix24, ld3, ln24, ms24, st3, l1In_eq, wsz, hin, hso, Bool.not_true, if_pos hw, Int.toNat_natCast, wl, es1, es2, lv1, lv2, lv3, kj, kp]
    -- end1
    exact q2.ansI 0 rfl rfl

def placeG (sh ix : List Int) : Nat → Int
  | 0 => 0
  | k + 1 => placeG sh ix k * sh.getD k 0 + ix.getD k 0
theorem place_le {sh ix : List Int} (h : ∀ k, k < sh.length → 0 ≤ sh.getD k 0 ∧ sh.getD k 0 ≤ 300 ∧ 0 ≤ ix.getD k 0 ∧ ix.getD k 0 < sh.getD k 0) : ∀ k, k ≤ sh.length → 0 ≤ placeG sh ix k ∧ placeG sh ix k ≤ 301 ^ k - 1 := by
  intro k
  induction k with
  | zero => intro _; exact ⟨Int.le_refl _, by simp [placeG]⟩
  | succ k ih =>
    intro hk
    obtain ⟨i1, i2⟩ := ih (by omega)
    obtain ⟨a1, a2, a3, a4⟩ := h k (by omega)
    simp only [placeG]
    have hm : 0 ≤ placeG sh ix k * sh.getD k 0 := Int.mul_nonneg i1 a1
    have hm2 : placeG sh ix k * sh.getD k 0 ≤ (301 ^ k - 1) * 300 := Int.mul_le_mul i2 a2 a1 (by omega)
    refine ⟨by omega, ?_⟩
    rw [Int.pow_succ]
    omega
theorem pow301 {k : Nat} (h : k ≤ 3) : (301 : Int) ^ k ≤ 27270901 := by
  match k, h with
  | 0, _ => decide
  | 1, _ => decide
  | 2, _ => decide
  | 3, _ => decide
def backL (l : List Int) (j : Nat) : List Int := (l.drop j).reverse
set_option maxHeartbeats 4000000 in
theorem backL_step {l : List Int} {i : Nat} (h : i < l.length) : backL l i = backL l (i + 1) ++ [l[i]] := by
  unfold backL; rw [List.drop_eq_getElem_cons h, List.reverse_cons]
theorem backL_len {l : List Int} {j : Nat} : (backL l j).length = l.length - j := by simp [backL]
theorem backL_top {l : List Int} : backL l l.length = [] := by simp [backL]

set_option maxHeartbeats 4000000 in
theorem implPlaceOf_ok {H : AH} {va vb : Value} {sh ix : List Int} (ha : IntRow H va sh) (hb : IntRow H vb ix) (hl : sh.length ≤ 1048576) (hl2 : ix.length = sh.length) (hs : 0 ≤ sizeI sh) (hv : ∀ k, k < sh.length → 0 ≤ ix.getD k 0 ∧ ix.getD k 0 < sh.getD k 0) : CallsA Try.prog 32 #[va, vb] H fun r H' => r = .int .i64 (placeG sh ix sh.length) ∧ ∃ K, H' = H ++ K := by
  obtain ⟨xa, xc, rfl, -⟩ := ha.op
  obtain ⟨ya, yc, rfl, -⟩ := hb.op
  obtain ⟨e1, e2, e3⟩ := sizeI_ok (l := sh) hs
  have hso : decide (sizeI sh ≥ 0) = true := by simp; omega
  have hall : ∀ k, k < sh.length → 0 ≤ sh.getD k 0 ∧ sh.getD k 0 ≤ 300 ∧ 0 ≤ ix.getD k 0 ∧ ix.getD k 0 < sh.getD k 0 := fun k hk => by
    have h5 := inB_true.1 (List.all_eq_true.1 e2 _ (List.getElem_mem hk))
    have h6 := hv k hk
    rw [getD_lt hk] at h6 ⊢
    exact ⟨h5.1, h5.2, h6.1, h6.2⟩
  have hpl := place_le hall
  have hle : ((ix.length : Int) != (sh.length : Int)) = false := by rw [hl2]; simp
  have q := (LX.nil (H := H))
  refine w32 ?_
  unfold k32
  have es1 := fun Φ => (implShapeOk_ok (ha.ext q.ext) (by omega)).eq0 (Φ := Φ)
  simp -implicitDefEqProofs only [kz, kk0, kk1, kk2, kk3, ↓two_true, ↓two_false, mkv, aggAt, Nat.reduceLeDiff, Nat.reduceSub, Nat.reduceMul, implies_true, Nat.reduceEqDiff, reduceIte, Nat.reduceAdd, Nat.reduceBEq, reduceCtorEq, ix24, ld3, ln24, within_eq, hso, Bool.not_true, hle, es1]
  refine rW_loopQ (σ := Nat) q [1, 18, 19] (fun x tm => tm 20 = .int .i64 x ∧ tm 5 = .int .i64 (placeG sh ix x) ∧ x ≤ sh.length) (fun x L => L) (fun x => sh.length - x) 0 ⟨rfl, rfl, Nat.zero_le _⟩ rfl ?_
  rintro i tm1 H1 ⟨lv1, lv2, lv3, -⟩ ⟨ki, kp, hi⟩ q1
  simp -implicitDefEqProofs only [kz, kk0, kk1, kk2, kk3, ↓two_true, ↓two_false, mkv, aggAt, Nat.reduceLeDiff, Nat.reduceSub, Nat.reduceMul, implies_true, Nat.reduceEqDiff, reduceIte, Nat.reduceAdd, Nat.reduceBEq, reduceCtorEq, ix24, ld3, ln24, es1] at lv1 lv2 lv3
  simp -implicitDefEqProofs only [kz, kk0, kk1, kk2, kk3, ↓two_true, ↓two_false, mkv, aggAt, Nat.reduceLeDiff, Nat.reduceSub, Nat.reduceMul, implies_true, Nat.reduceEqDiff, reduceIte, Nat.reduceAdd, Nat.reduceBEq, reduceCtorEq, ix24, ld3, ln24, within_eq, hso, Bool.not_true, hle, es1, lv1, lv2, lv3, ki, kp]
  refine two_intro (fun u1 => ?_) (fun u1 => ?_)
  ·
    have hi2 : i < sh.length := by have h5 := of_decide_eq_true u1; omega
    have hi3 : i < ix.length := by omega
    obtain ⟨a1, a2, a3, a4⟩ := hall i hi2
    obtain ⟨b1, b2⟩ := hpl i (by omega)
    have b3 := pow301 (k := i) (by omega)
    have gs : sh.getD i 0 = sh[i] := getD_lt hi2
    have gi : ix.getD i 0 = ix[i] := getD_lt hi3
    rw [gs, gi] at a4
    rw [gs] at a1 a2
    rw [gi] at a3
    have hm : 0 ≤ placeG sh ix i * sh[i] := Int.mul_nonneg b1 a1
    have hm2 : placeG sh ix i * sh[i] ≤ 27270901 * 300 := Int.mul_le_mul (by omega) a2 a1 (by omega)
    have w1 : IntKind.i64.wrap (sh[i] - 1) = sh[i] - 1 := IntWalk.i64_in _ (by omega)
    have hin : inB ix[i] 0 (sh[i] - 1) = true := inB_true.2 (by omega)
    have w2 : IntKind.i64.wrap (placeG sh ix i * sh[i]) = placeG sh ix i * sh[i] := IntWalk.i64_in _ (by omega)
    have w3 : IntKind.i64.wrap (placeG sh ix i * sh[i] + ix[i]) = placeG sh ix i * sh[i] + ix[i] := IntWalk.i64_in _ (by omega)
    have w4 : IntKind.i64.wrap ((i : Int) + 1) = ((i + 1 : Nat) : Int) := IntWalk.i64_in ((i : Int) + 1) (by omega)
    have e5 : placeG sh ix (i + 1) = placeG sh ix i * sh[i] + ix[i] := by simp only [placeG, gs, gi]
    obtain ⟨b1, o1, cs1, ei1, fr1, fc1⟩ := ixI (ha.ext q1.ext) (i := i) hi2
    obtain ⟨b2, o2, cs2, ei2, fr2, fc2⟩ := ixI (hb.ext q1.ext) (i := i) hi3
    obtain ⟨b3, o3, cs3, ei3, fr3, fc3⟩ := ixI (hb.ext q1.ext) (i := i) hi3
    try simp -implicitDefEqProofs only [kz, kk0, kk1, kk2, kk3, ↓two_true, ↓two_false, mkv, aggAt, Nat.reduceLeDiff, Nat.reduceSub, Nat.reduceMul, implies_true, Nat.reduceEqDiff, reduceIte, Nat.reduceAdd, Nat.reduceBEq, reduceCtorEq, ix24, ld3, ln24, within_eq, hso, Bool.not_true, hle, es1, w1, hin, w2, w3, w4, ei1, fr1, fc1, ei2, fr2, fc2, ei3, fr3, fc3, lv1, lv2, lv3, ki, kp]
    -- back loop1
    refine ⟨i + 1, (by omega), ⟨rfl, rfl, rfl, trivial⟩, ⟨by first | rfl | simp, by first | rfl | rw [e5], hi2⟩, ?_⟩
    exact q1
  ·
    have hil : i = sh.length := Nat.le_antisymm hi (by have h5 := of_decide_eq_false u1; omega)
    subst hil
    try simp -implicitDefEqProofs only [kz, kk0, kk1, kk2, kk3, ↓two_true, ↓two_false, mkv, aggAt, Nat.reduceLeDiff, Nat.reduceSub, Nat.reduceMul, implies_true, Nat.reduceEqDiff, reduceIte, Nat.reduceAdd, Nat.reduceBEq, reduceCtorEq, ix24, ld3, ln24, within_eq, hso, Bool.not_true, hle, es1, lv1, lv2, lv3, ki, kp]
    -- end1
    first | exact q1.ext | exact ⟨rfl, q1.ext⟩

end Go.Proofs.Ytpclegiocblpmaa.AM
