/- What the functions answer, part 2. -/
import Derived.Test.YtgekbancaeabgaaP1
set_option linter.unusedVariables false
set_option linter.unusedSimpArgs false
set_option linter.defProp false
set_option maxRecDepth 100000
/- What the functions answer, part 2. -/
namespace Go.Proofs.Ytgekbancaeabgaa.AM
open Go Go.Proofs.Ytgekbancaeabgaa Go.Proofs
theorem LD.lit {c : Option Nat} {H0 H : AH} {L : List It} {cs : List Value} {n : Nat} (h : LD c H0 H L) (l : List Int) (he : cs = ints l) (hn : n = l.length) : LD c H0 (H ++ [⟨cs, .own⟩]) (.row (.slice (some ⟨H.length, 0, none⟩) n 1) l :: L) :=
  h.nrow (DR.lit l (Nat.le_refl _) he hn) ⟨_, rfl⟩
theorem LD.nrow2 {c : Option Nat} {H0 H H' : AH} {L : List It} {v w : Value} {l m : List Int} (h : LD c H0 H L) (hv : DR H H' v l) (hw : DR H H' w m) (hd : Dj v w) (hf : ∃ K, H' = H ++ K) : LD c H0 H' (.row v l :: .row w m :: L) := by
  have h1 := h.nrow hv hf
  have h2 := h.nrow hw hf
  refine ⟨?_, ?_, ?_, h1.len, h1.keep, h1.cur, fun cb e => ?_⟩
  · rintro (_ | i) y hy
    · cases hy; exact hv.own
    · exact h2.ok i y hy
  · rintro (_ | i) y hy b hb
    · cases hy; exact h1.fr 0 _ rfl b hb
    · exact h2.fr i y hy b hb
  · rintro (_ | _ | i) (_ | _ | j) y z hne hy hz b e1 e2
    · exact hne rfl
    · cases hy; cases hz; exact hd b e1 e2
    · exact h1.dj 0 (j + 1) y z (by omega) hy hz b e1 e2
    · cases hy; cases hz; exact hd b e2 e1
    · exact hne rfl
    · exact h2.dj 0 (j + 1) y z (by omega) hy hz b e1 e2
    · exact h1.dj (i + 1) 0 y z (by omega) hy hz b e1 e2
    · exact h2.dj (i + 1) 0 y z (by omega) hy hz b e1 e2
    · exact h1.dj (i + 1) (j + 1) y z (by omega) hy hz b e1 e2
  · rintro (_ | i) y hy
    · cases hy; exact h1.nc cb e 0 _ rfl
    · exact h2.nc cb e i y hy
theorem LD.aown {c : Option Nat} {H0 H H' : AH} {L : List It} {p q v : Value} {sh dt : List Int} (h : LD c H0 H L) (ha : AOwn H H' v sh dt p q) (hf : ∃ K, H' = H ++ K) : LD c H0 H' (.row p sh :: .row q dt :: L) :=
  h.nrow2 ⟨ha.sh, ha.n1⟩ ⟨ha.dt, ha.n2⟩ ha.dj hf
theorem LD.da {cb : Nat} {H0 H H' : AH} {L : List It} {p q : Value} {sh dt : List Int} (h : LD (some cb) H0 H L) (ha : DA H H' p q sh dt) (hf : Frm cb H H') : LD (some cb) H0 H' (.row p sh :: .row q dt :: L) := by
  have h1 := h.dr ha.sh hf
  have h2 := h.dr ha.dt hf
  have := (h.call hf)
  refine ⟨?_, ?_, ?_, h1.len, h1.keep, h1.cur, fun cb e => ?_⟩
  · rintro (_ | i) y hy
    · cases hy; exact ha.sh.own
    · exact h2.ok i y hy
  · rintro (_ | i) y hy b hb
    · cases hy; exact h1.fr 0 _ rfl b hb
    · exact h2.fr i y hy b hb
  · rintro (_ | _ | i) (_ | _ | j) y z hne hy hz b e1 e2
    · exact hne rfl
    · cases hy; cases hz; exact ha.dj b e1 e2
    · exact h1.dj 0 (j + 1) y z (by omega) hy hz b e1 e2
    · cases hy; cases hz; exact ha.dj b e2 e1
    · exact hne rfl
    · exact h2.dj 0 (j + 1) y z (by omega) hy hz b e1 e2
    · exact h1.dj (i + 1) 0 y z (by omega) hy hz b e1 e2
    · exact h2.dj (i + 1) 0 y z (by omega) hy hz b e1 e2
    · exact h1.dj (i + 1) (j + 1) y z (by omega) hy hz b e1 e2
  · rintro (_ | i) y hy
    · cases hy; exact h1.nc cb e 0 _ rfl
    · exact h2.nc cb e i y hy
theorem LD.rd {c : Option Nat} {H0 H : AH} {L : List It} {o : Nat} {cs : List Value} (h : LD c H0 H L) (i : Nat) (hi : L[i]? = some (.box o cs)) : rd H o = some cs ∧ wrt H o = some cs :=
  ⟨rd_own (h.ok i _ hi), wrt_own (h.ok i _ hi)⟩
theorem LD.own {c : Option Nat} {H0 H : AH} {L : List It} {v : Value} {l : List Int} (h : LD c H0 H L) (i : Nat) (hi : L[i]? = some (.row v l)) : OwnRow H v l := h.ok i _ hi
/-- One thing is turned. -/
theorem LD.upd {c : Option Nat} {H0 H H' : AH} {L : List It} {x x' : It} (h : LD c H0 H L) (i : Nat) (hi : L[i]? = some x) (hl : H.length ≤ H'.length) (hk : ∀ b, b < H.length → ¬ x.bs b → H'[b]? = H[b]?) (hx : x'.ok H') (hb : ∀ b, x'.bs b → x.bs b ∨ H.length ≤ b) : LD c H0 H' (L.set i x') := by
  have hil := (List.getElem?_eq_some_iff.1 hi).1
  have get : ∀ (j : Nat) y, (L.set i x')[j]? = some y → (j = i ∧ y = x') ∨ (j ≠ i ∧ L[j]? = some y) := fun j y hy => by
    rcases Nat.decEq i j with e | e
    · rw [List.getElem?_set_ne e] at hy; exact .inr ⟨Ne.symm e, hy⟩
    · subst e; rw [List.getElem?_set_self hil] at hy; cases hy; exact .inl ⟨rfl, rfl⟩
  refine ⟨fun j y hy => ?_, fun j y hy b hb2 => ?_, fun j k y z hne hy hz b e1 e2 => ?_, Nat.le_trans h.len hl, fun b hb2 hn => ?_, fun cb e => ?_, fun cb e j y hy h2 => ?_⟩
  · rcases get j y hy with ⟨rfl, rfl⟩ | ⟨hne, hy⟩
    · exact hx
    · exact (h.ok j y hy).same fun b hb2 => hk b ((h.ok j y hy).lt b hb2) (h.dj j i y x hne hy hi b hb2)
  · rcases get j y hy with ⟨rfl, rfl⟩ | ⟨hne, hy⟩
    · exact (hb b hb2).elim (h.fr j x hi b) fun h2 => Nat.le_trans h.len h2
    · exact h.fr j y hy b hb2
  · rcases get j y hy with ⟨rfl, rfl⟩ | ⟨hne1, hy'⟩
    · rcases get k z hz with ⟨rfl, rfl⟩ | ⟨hne2, hz⟩
      · exact hne rfl
      · exact (hb b e1).elim (fun e1 => h.dj j k x z hne hi hz b e1 e2) fun e1 => by have := (h.ok k z hz).lt b e2; omega
    · rcases get k z hz with ⟨rfl, rfl⟩ | ⟨hne2, hz⟩
      · exact (hb b e2).elim (fun e2 => h.dj j k y x hne hy' hi b e1 e2) fun e2 => by have := (h.ok j y hy').lt b e1; omega
      · exact h.dj j k y z hne hy' hz b e1 e2
  · rw [hk b (Nat.lt_of_lt_of_le hb2 h.len) fun e => by have := h.fr i x hi b e; omega, h.keep b hb2 hn]
  · have h2 := h.cur cb e
    refine h2.same (hk cb h2.lt (h.nc cb e i x hi)) fun b cs hb2 => ?_
    rw [hk b (List.getElem?_eq_some_iff.1 hb2).1 fun e => ?_]
    · exact hb2
    · obtain ⟨cs', h3⟩ := (h.ok i x hi).ownb b e
      rw [hb2] at h3; cases h3
  · rcases get j y hy with ⟨rfl, rfl⟩ | ⟨hne1, hy'⟩
    · exact (hb cb h2).elim (h.nc cb e j x hi) fun h3 => by have := (h.cur cb e).lt; omega
    · exact h.nc cb e j y hy' h2
theorem LD.cursor {H0 H H' : AH} {L : List It} {cb : Nat} (h : LD none H0 H L) (hf : ∃ K, H' = H ++ K) (hc : Cur H' cb) (hb : H.length ≤ cb) : LD (some cb) H0 H' L := by
  have h1 := h.extd hf
  exact ⟨h1.ok, h1.fr, h1.dj, h1.len, fun b hb _ => h1.keep b hb (by simp), fun g e => by cases e; exact hc, fun g e i x hx h2 => by cases e; have := (h.ok i x hx).lt _ h2; omega⟩
theorem LD.out {H0 H : AH} {L : List It} {cb : Nat} (h : LD (some cb) H0 H L) (hb : H0.length ≤ cb) : LD none H0 H L :=
  ⟨h.ok, h.fr, h.dj, h.len, fun b hb2 _ => h.keep b hb2 (by simp; omega), fun _ e => by simp at e, fun _ e => by simp at e⟩
theorem LD.set {c : Option Nat} {H0 H : AH} {L : List It} {o : Nat} {cs : List Value} (h : LD c H0 H L) (i : Nat) (hi : L[i]? = some (.box o cs)) (cs' : List Value) : LD c H0 (H.set o ⟨cs', .own⟩) (L.set i (.box o cs')) :=
  h.upd i hi (by simp) (fun b hb hn => List.getElem?_set_ne (fun e => hn e.symm)) (set_at (h.ok i _ hi)) fun b hb => .inl hb
theorem LD.push {c : Option Nat} {H0 H H' : AH} {L : List It} {v v' : Value} {l m : List Int} (h : LD c H0 H L) (i : Nat) (hi : L[i]? = some (.row v l)) (ho : OwnRow H' v' m) (ha : App H v H' v') : LD c H0 H' (L.set i (.row v' m)) :=
  h.upd i hi ha.len ha.keep ho ha.new
theorem LD.wr1 {c : Option Nat} {H0 H : AH} {L : List It} {b o : Nat} {cs : List Value} {l : List Int} {k : Nat} {x : Int} (h : LD c H0 H L) (i : Nat) (hi : L[i]? = some (.row (.slice (some ⟨b, o, none⟩) l.length 1) l)) (h1 : H[b]? = some ⟨cs, .own⟩) (h2 : o + l.length ≤ cs.length) (h3 : ∀ (i : Nat) x, l[i]? = some x → cs[o + i]? = some (.int .i64 x)) (hk : k < l.length) :
    LD c H0 (H.set b ⟨cs.set (o + k) (.int .i64 x), .own⟩) (L.set i (.row (.slice (some ⟨b, o, none⟩) l.length 1) (l.set k x))) :=
  h.upd i hi (by simp) (fun g hg hn => List.getElem?_set_ne (fun e => hn (by rw [← e]; rfl))) (OwnRow.wr1 h1 h2 h3 hk) fun g hg => .inl hg
theorem LD.join {c : Option Nat} {H0 H H' : AH} {L L' : List It} (h : LD c H0 H L) (g : LD none H H' L') : LD c H0 H' (L' ++ L) := by
  have h1 := h.extd g.ext
  have get : ∀ (i : Nat) x, (L' ++ L)[i]? = some x → (i < L'.length ∧ L'[i]? = some x) ∨ (L'.length ≤ i ∧ L[i - L'.length]? = some x) := fun i x hx => by
    rcases Nat.lt_or_ge i L'.length with e | e
    · rw [List.getElem?_append_left e] at hx; exact .inl ⟨e, hx⟩
    · rw [List.getElem?_append_right e] at hx; exact .inr ⟨e, hx⟩
  refine ⟨fun i x hx => ?_, fun i x hx b hb => ?_, fun i j x y hne hx hy b e1 e2 => ?_, h1.len, h1.keep, h1.cur, fun cb e i x hx hb => ?_⟩
  · rcases get i x hx with ⟨_, hx⟩ | ⟨_, hx⟩
    · exact g.ok _ x hx
    · exact h1.ok _ x hx
  · rcases get i x hx with ⟨_, hx⟩ | ⟨_, hx⟩
    · exact Nat.le_trans h.len (g.fr _ x hx b hb)
    · exact h1.fr _ x hx b hb
  · rcases get i x hx with ⟨a1, hx⟩ | ⟨a1, hx⟩ <;> rcases get j y hy with ⟨a2, hy⟩ | ⟨a2, hy⟩
    · exact g.dj i j x y hne hx hy b e1 e2
    · have := g.fr _ x hx b e1; have := (h.ok _ y hy).lt b e2; omega
    · have := g.fr _ y hy b e2; have := (h.ok _ x hx).lt b e1; omega
    · exact h1.dj _ _ x y (by omega) hx hy b e1 e2
  · rcases get i x hx with ⟨_, hx⟩ | ⟨_, hx⟩
    · have := g.fr _ x hx cb hb; have := (h.cur cb e).lt; omega
    · exact h1.nc cb e _ x hx hb
def pickL (L : List It) (is : List Nat) : List It := is.map fun i => (L[i]?).getD (.row (.slice none 0 0) [])
theorem LD.pick {c : Option Nat} {H0 H : AH} {L : List It} (h : LD c H0 H L) (is : List Nat) (hn : is.Nodup) : LD c H0 H (pickL L is) := by
  have get : ∀ (j : Nat) x, (pickL L is)[j]? = some x → ∃ i, is[j]? = some i ∧ (L[i]? = some x ∨ x = .row (.slice none 0 0) []) := fun j x hx => by
    simp only [pickL, List.getElem?_map, Option.map_eq_some_iff] at hx
    obtain ⟨i, hi, rfl⟩ := hx
    refine ⟨i, hi, ?_⟩
    cases hL : L[i]? with
    | none => exact .inr rfl
    | some y => exact .inl rfl
  have nob : ∀ b, ¬ (It.row (.slice none 0 0) []).bs b := fun b hb => by simp [It.bs, blkOf] at hb
  refine ⟨fun j x hx => ?_, fun j x hx b hb => ?_, fun j k x y hne hx hy b e1 e2 => ?_, h.len, h.keep, h.cur, fun cb e j x hx hb => ?_⟩
  · obtain ⟨i, _, h1 | rfl⟩ := get j x hx
    · exact h.ok i x h1
    · exact OwnRow.nil
  · obtain ⟨i, _, h1 | rfl⟩ := get j x hx
    · exact h.fr i x h1 b hb
    · exact (nob b hb).elim
  · obtain ⟨i, hi, h1 | rfl⟩ := get j x hx
    · obtain ⟨i', hi', h1' | rfl⟩ := get k y hy
      · refine h.dj i i' x y ?_ h1 h1' b e1 e2
        rintro rfl
        obtain ⟨l1, l2⟩ := List.getElem?_eq_some_iff.1 hi
        obtain ⟨l3, l4⟩ := List.getElem?_eq_some_iff.1 hi'
        have hp := List.pairwise_iff_getElem.1 hn
        rcases Nat.lt_or_gt_of_ne hne with e | e
        · exact hp _ _ l1 l3 e (l2.trans l4.symm)
        · exact hp _ _ l3 l1 e (l4.trans l2.symm)
      · exact nob b e2
    · exact nob b e1
  · obtain ⟨i, _, h1 | rfl⟩ := get j x hx
    · exact h.nc cb e i x h1 hb
    · exact nob cb hb
/-- One number of a row is written. -/
theorem LD.wr {c : Option Nat} {H0 H : AH} {L : List It} {v : Value} {l : List Int} {k : Nat} (h : LD c H0 H L) (i : Nat) (hi : L[i]? = some (.row v l)) (hk : k < l.length) :
    ∃ b o cs, v = .slice (some ⟨b, o, none⟩) l.length 1 ∧ wrt H b = some cs ∧ Go.Proofs.Ytgekbancaeabgaa.AM.rd H b = some cs ∧ o + l.length ≤ cs.length ∧ (∀ (i : Nat) x, l[i]? = some x → cs[o + i]? = some (.int .i64 x)) ∧ ∀ x, LD c H0 (H.set b ⟨cs.set (o + k) (.int .i64 x), .own⟩) (L.set i (.row v (l.set k x))) := by
  obtain ⟨b, o, cs, rfl, h1, h2, h3⟩ := (h.own i hi).blk (Nat.lt_of_le_of_lt (Nat.zero_le _) hk)
  exact ⟨b, o, cs, rfl, wrt_own h1, rd_own h1, h2, h3, fun x => h.wr1 i hi h1 h2 h3 hk⟩
theorem LD.cells {c : Option Nat} {H0 H : AH} {L : List It} {v : Value} {l : List Int} (h : LD c H0 H L) (i : Nat) (hi : L[i]? = some (.row v l)) (hk : 0 < l.length) :
    ∃ b o cs, v = .slice (some ⟨b, o, none⟩) l.length 1 ∧ Go.Proofs.Ytgekbancaeabgaa.AM.rd H b = some cs ∧ ∀ (i : Nat) x, l[i]? = some x → cs[o + i]? = some (.int .i64 x) := by
  obtain ⟨b, o, cs, rfl, h1, h2, h3⟩ := (h.own i hi).blk hk
  exact ⟨b, o, cs, rfl, rd_own h1, h3⟩

/-- The bytes of a draw. -/
def BRv (H : AH) (v : Value) : Prop := ∃ a n c, v = .slice a n c ∧ n ≤ 1048576 ∧ BRow H a n c
theorem BRow.mono {H L : AH} {a : Option Addr} {n c : Nat} (h : BRow H a n c) : BRow (H ++ L) a n c := fun hn => by
  obtain ⟨b, o, cs, h1, h2, h3, h4⟩ := h hn
  exact ⟨b, o, cs, h1, h2, gtl h3, h4⟩
theorem BRv.ext {H H' : AH} {v : Value} (h : BRv H v) (he : ∃ K, H' = H ++ K) : BRv H' v := by
  obtain ⟨K, rfl⟩ := he
  obtain ⟨a, n, c, h1, h2, h3⟩ := h
  exact ⟨a, n, c, h1, h2, h3.mono⟩
/-- An array that may be read. -/
structure AR (H : AH) (p q : Value) (sh dt : List Int) : Prop where
  os : IntRow H p sh
  od : IntRow H q dt
  l1 : sh.length ≤ 1048576
  l2 : dt.length ≤ 1048576
theorem AR.ext {H H' : AH} {p q : Value} {sh dt : List Int} (h : AR H p q sh dt) (he : ∃ K, H' = H ++ K) : AR H' p q sh dt := ⟨h.os.ext he, h.od.ext he, h.l1, h.l2⟩
theorem AR.mono {H L : AH} {p q : Value} {sh dt : List Int} (h : AR H p q sh dt) : AR (H ++ L) p q sh dt := h.ext ⟨_, rfl⟩
/-- What a draw of two arrays answers. -/
def Dr2 (H H' : AH) (r : Value) : Prop := ∃ p q sh dt p' q' sh' dt', r = .tuple #[.agg #[p, q], .agg #[p', q']] ∧ LD none H H' [.row p sh, .row q dt, .row p' sh', .row q' dt'] ∧ sh.length ≤ 1048576 ∧ dt.length ≤ 1048576 ∧ sh'.length ≤ 1048576 ∧ dt'.length ≤ 1048576
theorem LD.ar {c : Option Nat} {H0 H : AH} {L : List It} {p q : Value} {sh dt : List Int} (h : LD c H0 H L) (i j : Nat) (hi : L[i]? = some (.row p sh)) (hj : L[j]? = some (.row q dt)) (l1 : sh.length ≤ 1048576) (l2 : dt.length ≤ 1048576) : AR H p q sh dt := ⟨(h.own i hi).int, (h.own j hj).int, l1, l2⟩
theorem LD.of {c : Option Nat} {H0 H : AH} {L L' : List It} (h : LD c H0 H L) (e : L = L') : LD c H0 H L' := by rw [← e]; exact h

theorem big_eq {a : Option Addr} {n c : Nat} {H : AH} {Φ : Value → AH → Prop} : CallsA Try.prog 29 #[.slice a n c] H Φ = Φ (.bool (decide (1048576 < (n : Int)))) H := by
  have : CallsA Try.prog 29 #[.slice a n c] H fun r H' => r = .bool (decide (1048576 < (n : Int))) ∧ H' = H := by
    refine w29 ?_
    unfold k29
    simp -implicitDefEqProofs [kk0, kk1, kk2, kk3, rW_block, ↓two_true, ↓two_false, rW_cond, rO_guard, oS_some, oM_some, mkv, aggAt, Nat.reduceLeDiff, Nat.reduceSub, Nat.reduceMul, cond_true, cond_false, Option.bind_some, List.length_append, List.length_cons, List.length_nil, List.append_assoc, List.cons_append, List.nil_append, List.set_cons_zero, List.set_cons_succ, List.size_toArray, List.all_cons, List.all_nil, List.drop_zero, List.drop_succ_cons, List.take_succ_cons, List.take_zero, List.mem_cons, Prod.mk.injEq, List.not_mem_nil, implies_true, List.getElem?_toArray, List.getElem?_cons_zero, List.getElem?_cons_succ, List.getElem?_nil, Option.getD_some, Option.getD_none, Nat.reduceEqDiff, reduceIte, Nat.reduceAdd, List.map_toArray, List.map_cons, List.map_nil, Bool.false_eq_true, Nat.reduceBEq, Option.map_some, Option.map_none, reduceCtorEq, ln41]
  exact this.eq0

theorem l1New_ok {H : AH} {v : Value} (hv : BRv H v) : CallsA Try.prog 88 #[v] H fun r H' => ∃ cb, r = .pointer (some ⟨cb, 0, none⟩) ∧ Cur H' cb ∧ H.length ≤ cb ∧ ∃ K, H' = H ++ K := by
  obtain ⟨a, n, c, rfl, hn, hr⟩ := hv
  refine w88 ?_
  unfold k88
  simp -implicitDefEqProofs only [kk0, kk1, kk2, kk3, rW_block, ↓two_true, ↓two_false, rW_cond, rO_guard, oS_some, oM_some, mkv, aggAt, Nat.reduceLeDiff, Nat.reduceSub, Nat.reduceMul, cond_true, cond_false, Option.bind_some, List.length_append, List.length_cons, List.length_nil, List.append_assoc, List.cons_append, List.nil_append, List.set_cons_zero, List.set_cons_succ, List.size_toArray, List.all_cons, List.all_nil, List.drop_zero, List.drop_succ_cons, List.take_succ_cons, List.take_zero, List.mem_cons, Prod.mk.injEq, List.not_mem_nil, implies_true, List.getElem?_toArray, List.getElem?_cons_zero, List.getElem?_cons_succ, List.getElem?_nil, Option.getD_some, Option.getD_none, Nat.reduceEqDiff, reduceIte, Nat.reduceAdd, List.map_toArray, List.map_cons, List.map_nil, Bool.false_eq_true, Nat.reduceBEq, Option.map_some, Option.map_none, reduceCtorEq, bd154, cv5_3, ix41, ld5, ln41]
  refine rW_loop (σ := Nat) (fun i tm H' => tm 0 = .slice a n c ∧ (∃ h : Int, tm 3 = .int .i64 h) ∧ tm 4 = .int .i64 i ∧ H' = H ∧ i ≤ n) (fun i => n - i) 0 ?_ ?_
  · exact ⟨rfl, ⟨_, rfl⟩, rfl, rfl, Nat.zero_le _⟩
  · rintro i tm H' ⟨h0, ⟨h, h3⟩, h4, rfl, hi⟩
    simp -implicitDefEqProofs only [kk0, kk1, kk2, kk3, rW_block, ↓two_true, ↓two_false, rW_cond, rO_guard, oS_some, oM_some, mkv, aggAt, Nat.reduceLeDiff, Nat.reduceSub, Nat.reduceMul, cond_true, cond_false, Option.bind_some, List.length_append, List.length_cons, List.length_nil, List.append_assoc, List.cons_append, List.nil_append, List.set_cons_zero, List.set_cons_succ, List.size_toArray, List.all_cons, List.all_nil, List.drop_zero, List.drop_succ_cons, List.take_succ_cons, List.take_zero, List.mem_cons, Prod.mk.injEq, List.not_mem_nil, implies_true, List.getElem?_toArray, List.getElem?_cons_zero, List.getElem?_cons_succ, List.getElem?_nil, Option.getD_some, Option.getD_none, Nat.reduceEqDiff, reduceIte, Nat.reduceAdd, List.map_toArray, List.map_cons, List.map_nil, Bool.false_eq_true, Nat.reduceBEq, Option.map_some, Option.map_none, reduceCtorEq, bd154, cv5_3, ix41, ld5, ln41, h0, h3, h4]
    have fin : ∃ cb, Value.pointer (some ⟨H'.length, 0, none⟩) = Value.pointer (some ⟨cb, 0, none⟩) ∧ Cur (H' ++ [⟨[.slice a n c, .int .i64 0, .int .i64 h], .own⟩]) cb ∧ H'.length ≤ cb ∧ ∃ K, H' ++ [⟨[.slice a n c, .int .i64 0, .int .i64 h], .own⟩] = H' ++ K :=
      ⟨_, rfl, ⟨a, n, c, 0, h, by rw [gt0]; rfl, Nat.zero_le _, hn, hr.mono⟩, Nat.le_refl _, _, rfl⟩
    refine two_intro (fun hc => two_intro (fun hc2 => ?_) (fun hc2 => fin)) (fun hc => fin)
    have hc' : i < n := by simpa using hc
    obtain ⟨b, o, cs, rfl, rfl, hb, hcell⟩ := hr (by omega)
    obtain ⟨v, hv, v0, v1⟩ := hcell i hc'
    have hrb : rd H' b = some cs := by unfold rd; rw [hb]; rfl
    simp -implicitDefEqProofs only [kk0, kk1, kk2, kk3, rW_block, ↓two_true, ↓two_false, rW_cond, rO_guard, oS_some, oM_some, mkv, aggAt, Nat.reduceLeDiff, Nat.reduceSub, Nat.reduceMul, cond_true, cond_false, Option.bind_some, List.length_append, List.length_cons, List.length_nil, List.append_assoc, List.cons_append, List.nil_append, List.set_cons_zero, List.set_cons_succ, List.size_toArray, List.all_cons, List.all_nil, List.drop_zero, List.drop_succ_cons, List.take_succ_cons, List.take_zero, List.mem_cons, Prod.mk.injEq, List.not_mem_nil, implies_true, List.getElem?_toArray, List.getElem?_cons_zero, List.getElem?_cons_succ, List.getElem?_nil, Option.getD_some, Option.getD_none, Nat.reduceEqDiff, reduceIte, Nat.reduceAdd, List.map_toArray, List.map_cons, List.map_nil, Bool.false_eq_true, Nat.reduceBEq, Option.map_some, Option.map_none, reduceCtorEq, bd154, cv5_3, ix41, ld5, ln41, h0, h3, h4, Int.toNat_natCast, Nat.mul_one, hrb, hv, IntWalk.i64_in (↑i + 1) (by omega)]
    exact ⟨⟨by omega, by omega⟩, i + 1, by omega, ⟨_, rfl⟩, by simp, hc'⟩
theorem l3Scalar_ok {H : AH} {x : Int} : CallsA Try.prog 113 #[.int .i64 x] H fun r H' => ∃ b, r = .agg #[.slice none 0 0, .slice (some ⟨b, 0, none⟩) 1 1] ∧ LD none H H' [.row (.slice (some ⟨b, 0, none⟩) 1 1) [x]] := by
  refine w113 ?_
  unfold k113
  simp -implicitDefEqProofs only [kk0, kk1, kk2, kk3, rW_block, ↓two_true, ↓two_false, rW_cond, rO_guard, oS_some, oM_some, mkv, aggAt, Nat.reduceLeDiff, Nat.reduceSub, Nat.reduceMul, cond_true, cond_false, Option.bind_some, List.length_append, List.length_cons, List.length_nil, List.append_assoc, List.cons_append, List.nil_append, List.set_cons_zero, List.set_cons_succ, List.size_toArray, List.all_cons, List.all_nil, List.drop_zero, List.drop_succ_cons, List.take_succ_cons, List.take_zero, List.mem_cons, Prod.mk.injEq, List.not_mem_nil, implies_true, List.getElem?_toArray, List.getElem?_cons_zero, List.getElem?_cons_succ, List.getElem?_nil, Option.getD_some, Option.getD_none, Nat.reduceEqDiff, reduceIte, Nat.reduceAdd, List.map_toArray, List.map_cons, List.map_nil, Bool.false_eq_true, Nat.reduceBEq, Option.map_some, Option.map_none, reduceCtorEq, al45, bd45, bs43_1, ld45, st45]
  have q := (LD.nil (H := H)).box [.slice none 0 0, .slice (some ⟨H.length + 1, 0, none⟩) 1 1] |>.lit (cs := [.int .i64 x]) (n := 1) [x] rfl rfl
  simp -implicitDefEqProofs only [kk0, kk1, kk2, kk3, rW_block, ↓two_true, ↓two_false, rW_cond, rO_guard, oS_some, oM_some, mkv, aggAt, Nat.reduceLeDiff, Nat.reduceSub, Nat.reduceMul, cond_true, cond_false, Option.bind_some, List.length_append, List.length_cons, List.length_nil, List.append_assoc, List.cons_append, List.nil_append, List.set_cons_zero, List.set_cons_succ, List.size_toArray, List.all_cons, List.all_nil, List.drop_zero, List.drop_succ_cons, List.take_succ_cons, List.take_zero, List.mem_cons, Prod.mk.injEq, List.not_mem_nil, implies_true, List.getElem?_toArray, List.getElem?_cons_zero, List.getElem?_cons_succ, List.getElem?_nil, Option.getD_some, Option.getD_none, Nat.reduceEqDiff, reduceIte, Nat.reduceAdd, List.map_toArray, List.map_cons, List.map_nil, Bool.false_eq_true, Nat.reduceBEq, Option.map_some, Option.map_none, reduceCtorEq, al45, bd45, bs43_1, ld45, st45] at q
  exact ⟨_, rfl, q.pick [0] (by decide)⟩

theorem DrawPick_ok {H : AH} {v : Value} (hv : BRv H v) : CallsA Try.prog 43 #[v] H fun r H' => Dr2 H H' r := by
  refine w43 ?_
  unfold k43
  have q := (LD.nil (H := H)).box [.slice none 0 0, .slice none 0 0] |>.box [.slice none 0 0, .slice none 0 0]
  simp -implicitDefEqProofs only [kk0, kk1, kk2, kk3, rW_block, ↓two_true, ↓two_false, rW_cond, rO_guard, oS_some, oM_some, mkv, aggAt, Nat.reduceLeDiff, Nat.reduceSub, Nat.reduceMul, cond_true, cond_false, Option.bind_some, List.length_append, List.length_cons, List.length_nil, List.append_assoc, List.cons_append, List.nil_append, List.set_cons_zero, List.set_cons_succ, List.size_toArray, List.all_cons, List.all_nil, List.drop_zero, List.drop_succ_cons, List.take_succ_cons, List.take_zero, List.mem_cons, Prod.mk.injEq, List.not_mem_nil, implies_true, List.getElem?_toArray, List.getElem?_cons_zero, List.getElem?_cons_succ, List.getElem?_nil, Option.getD_some, Option.getD_none, Nat.reduceEqDiff, reduceIte, Nat.reduceAdd, List.map_toArray, List.map_cons, List.map_nil, Bool.false_eq_true, Nat.reduceBEq, Option.map_some, Option.map_none, reduceCtorEq, al45, fa45_0, fa45_1, ix43, ld3, ld43, ld45, ln43, st3, st45] at q ⊢
  refine (l1New_ok (hv.ext ⟨_, rfl⟩)).mono ?_
  rintro _ H1 ⟨cb, rfl, hc, hcb, he⟩
  have q := q.cursor he hc hcb
  simp only [List.length_append, List.length_cons, List.length_nil] at hcb
  simp -implicitDefEqProofs only [kk0, kk1, kk2, kk3, rW_block, ↓two_true, ↓two_false, rW_cond, rO_guard, oS_some, oM_some, mkv, aggAt, Nat.reduceLeDiff, Nat.reduceSub, Nat.reduceMul, cond_true, cond_false, Option.bind_some, List.length_append, List.length_cons, List.length_nil, List.append_assoc, List.cons_append, List.nil_append, List.set_cons_zero, List.set_cons_succ, List.size_toArray, List.all_cons, List.all_nil, List.drop_zero, List.drop_succ_cons, List.take_succ_cons, List.take_zero, List.mem_cons, Prod.mk.injEq, List.not_mem_nil, implies_true, List.getElem?_toArray, List.getElem?_cons_zero, List.getElem?_cons_succ, List.getElem?_nil, Option.getD_some, Option.getD_none, Nat.reduceEqDiff, reduceIte, Nat.reduceAdd, List.map_toArray, List.map_cons, List.map_nil, Bool.false_eq_true, Nat.reduceBEq, Option.map_some, Option.map_none, reduceCtorEq, al45, fa45_0, fa45_1, ix43, ld3, ld43, ld45, ln43, st3, st45]
  refine (l3Draw_ok (q.cur _ rfl)).mono ?_
  rintro _ H2 ⟨⟨x, xq, xs, xd, rfl, d, x1, x2⟩, hf⟩
  have q := (q.da d hf).box [x, xq]
  obtain ⟨xa, xc, rfl⟩ := d.sh.own.isSlice
  obtain ⟨xe, xf, rfl⟩ := d.dt.own.isSlice
  clear d
  have e5 := (q.rd 0 rfl).1
  simp -implicitDefEqProofs only [kk0, kk1, kk2, kk3, ↓two_true, ↓two_false, rO_guard, oS_some, oM_some, mkv, aggAt, Nat.reduceLeDiff, Nat.reduceSub, Nat.reduceMul, cond_true, cond_false, Option.bind_some, List.length_append, List.length_cons, List.length_nil, List.append_assoc, List.cons_append, List.nil_append, List.set_cons_zero, List.set_cons_succ, List.size_toArray, List.all_cons, List.all_nil, List.drop_zero, List.drop_succ_cons, List.take_succ_cons, List.take_zero, List.mem_cons, Prod.mk.injEq, List.not_mem_nil, implies_true, List.getElem?_toArray, List.getElem?_cons_zero, List.getElem?_cons_succ, List.getElem?_nil, Option.getD_some, Option.getD_none, Nat.reduceEqDiff, reduceIte, Nat.reduceAdd, List.map_toArray, List.map_cons, List.map_nil, Bool.false_eq_true, Nat.reduceBEq, Option.map_some, Option.map_none, reduceCtorEq, al45, fa45_0, fa45_1, ix43, ld3, ld43, ld45, ln43, st3, st45, e5]
  refine rW_join (fun tm H' => tm 2 = .pointer (some ⟨H.length, 0, none⟩) ∧ tm 3 = .pointer (some ⟨H.length + 1, 0, none⟩) ∧ tm 4 = .pointer (some ⟨cb, 0, none⟩) ∧ tm 5 = .pointer (some ⟨H2.length, 0, none⟩) ∧ (∃ m : Int, tm 6 = .int .i64 m) ∧ H' = H2 ++ [⟨[.slice xa xs.length xc, .slice xe xd.length xf], .own⟩]) ?_ ?_
  · simp -implicitDefEqProofs only [kk0, kk1, kk2, kk3, rW_block, ↓two_true, ↓two_false, rW_cond, rO_guard, oS_some, oM_some, mkv, aggAt, Nat.reduceLeDiff, Nat.reduceSub, Nat.reduceMul, cond_true, cond_false, Option.bind_some, List.length_append, List.length_cons, List.length_nil, List.append_assoc, List.cons_append, List.nil_append, List.set_cons_zero, List.set_cons_succ, List.size_toArray, List.all_cons, List.all_nil, List.drop_zero, List.drop_succ_cons, List.take_succ_cons, List.take_zero, List.mem_cons, Prod.mk.injEq, List.not_mem_nil, implies_true, List.getElem?_toArray, List.getElem?_cons_zero, List.getElem?_cons_succ, List.getElem?_nil, Option.getD_some, Option.getD_none, Nat.reduceEqDiff, reduceIte, Nat.reduceAdd, List.map_toArray, List.map_cons, List.map_nil, Bool.false_eq_true, Nat.reduceBEq, Option.map_some, Option.map_none, reduceCtorEq, al45, fa45_0, fa45_1, ix43, ld3, ld43, ld45, ln43, st3, st45, e5]
    refine two_intro (fun h => ?_) (fun h => ⟨_, rfl⟩)
    obtain ⟨b, o, cs, hv, hr, hcs⟩ := q.cells 1 rfl (by simpa using h)
    injection hv with e1 _ e2
    subst e1; subst e2
    have h0 : 0 < xs.length := by simpa using h
    have h1 : cs[o]? = _ := hcs 0 _ (List.getElem?_eq_getElem h0)
    simp -implicitDefEqProofs only [kk0, kk1, kk2, kk3, rW_block, ↓two_true, ↓two_false, rW_cond, rO_guard, oS_some, oM_some, mkv, aggAt, Nat.reduceLeDiff, Nat.reduceSub, Nat.reduceMul, cond_true, cond_false, Option.bind_some, List.length_append, List.length_cons, List.length_nil, List.append_assoc, List.cons_append, List.nil_append, List.set_cons_zero, List.set_cons_succ, List.size_toArray, List.all_cons, List.all_nil, List.drop_zero, List.drop_succ_cons, List.take_succ_cons, List.take_zero, List.mem_cons, Prod.mk.injEq, List.not_mem_nil, implies_true, List.getElem?_toArray, List.getElem?_cons_zero, List.getElem?_cons_succ, List.getElem?_nil, Option.getD_some, Option.getD_none, Nat.reduceEqDiff, reduceIte, Nat.reduceAdd, List.map_toArray, List.map_cons, List.map_nil, Bool.false_eq_true, Nat.reduceBEq, Option.map_some, Option.map_none, reduceCtorEq, al45, fa45_0, fa45_1, ix43, ld3, ld43, ld45, ln43, st3, st45, hr, h1, l1Max_eq, Int.toNat_zero, Nat.zero_mul]
    exact ⟨⟨by omega, by omega⟩, _, rfl⟩
  rintro tm H3 ⟨h2, h3, h4, h5, ⟨m, h6⟩, rfl⟩
  simp -implicitDefEqProofs only [kk0, kk1, kk2, kk3, rW_block, ↓two_true, ↓two_false, rW_cond, rO_guard, oS_some, oM_some, mkv, aggAt, Nat.reduceLeDiff, Nat.reduceSub, Nat.reduceMul, cond_true, cond_false, Option.bind_some, List.length_append, List.length_cons, List.length_nil, List.append_assoc, List.cons_append, List.nil_append, List.set_cons_zero, List.set_cons_succ, List.size_toArray, List.all_cons, List.all_nil, List.drop_zero, List.drop_succ_cons, List.take_succ_cons, List.take_zero, List.mem_cons, Prod.mk.injEq, List.not_mem_nil, implies_true, List.getElem?_toArray, List.getElem?_cons_zero, List.getElem?_cons_succ, List.getElem?_nil, Option.getD_some, Option.getD_none, Nat.reduceEqDiff, reduceIte, Nat.reduceAdd, List.map_toArray, List.map_cons, List.map_nil, Bool.false_eq_true, Nat.reduceBEq, Option.map_some, Option.map_none, reduceCtorEq, al45, fa45_0, fa45_1, ix43, ld3, ld43, ld45, ln43, st3, st45, h2, h3, h4, h5, h6]
  refine (l3Draw_ok (q.cur _ rfl)).mono ?_
  rintro _ H3 ⟨⟨y, yq, ys, yd, rfl, d, y1, y2⟩, hf⟩
  have q := (q.da d hf).box [y, yq]
  obtain ⟨ya, yc, rfl⟩ := d.sh.own.isSlice
  obtain ⟨ye, yf, rfl⟩ := d.dt.own.isSlice
  clear d
  simp -implicitDefEqProofs only [kk0, kk1, kk2, kk3, ↓two_true, ↓two_false, rO_guard, oS_some, oM_some, mkv, aggAt, Nat.reduceLeDiff, Nat.reduceSub, Nat.reduceMul, cond_true, cond_false, Option.bind_some, List.length_append, List.length_cons, List.length_nil, List.append_assoc, List.cons_append, List.nil_append, List.set_cons_zero, List.set_cons_succ, List.size_toArray, List.all_cons, List.all_nil, List.drop_zero, List.drop_succ_cons, List.take_succ_cons, List.take_zero, List.mem_cons, Prod.mk.injEq, List.not_mem_nil, implies_true, List.getElem?_toArray, List.getElem?_cons_zero, List.getElem?_cons_succ, List.getElem?_nil, Option.getD_some, Option.getD_none, Nat.reduceEqDiff, reduceIte, Nat.reduceAdd, List.map_toArray, List.map_cons, List.map_nil, Bool.false_eq_true, Nat.reduceBEq, Option.map_some, Option.map_none, reduceCtorEq, al45, fa45_0, fa45_1, ix43, ld3, ld43, ld45, ln43, st3, st45, h2, h3, h4, h5, h6]
  refine rW_join (fun tm H' => tm 2 = .pointer (some ⟨H.length, 0, none⟩) ∧ tm 3 = .pointer (some ⟨H.length + 1, 0, none⟩) ∧ tm 4 = .pointer (some ⟨cb, 0, none⟩) ∧ tm 5 = .pointer (some ⟨H2.length, 0, none⟩) ∧ tm 6 = .int .i64 m ∧ tm 7 = .pointer (some ⟨H3.length, 0, none⟩) ∧ ∃ l, l.length = yd.length ∧ LD (some cb) H H' [.box H3.length [.slice ya ys.length yc, .slice ye yd.length yf], .row (.slice ya ys.length yc) ys, .row (.slice ye yd.length yf) l, .box H2.length [.slice xa xs.length xc, .slice xe xd.length xf], .row (.slice xa xs.length xc) xs, .row (.slice xe xd.length xf) xd, .box (H.length + 1) [.slice none 0 0, .slice none 0 0], .box H.length [.slice none 0 0, .slice none 0 0]]) ?_ ?_
  · simp -implicitDefEqProofs only [kk0, kk1, kk2, kk3, rW_block, ↓two_true, ↓two_false, rW_cond, rO_guard, oS_some, oM_some, mkv, aggAt, Nat.reduceLeDiff, Nat.reduceSub, Nat.reduceMul, cond_true, cond_false, Option.bind_some, List.length_append, List.length_cons, List.length_nil, List.append_assoc, List.cons_append, List.nil_append, List.set_cons_zero, List.set_cons_succ, List.size_toArray, List.all_cons, List.all_nil, List.drop_zero, List.drop_succ_cons, List.take_succ_cons, List.take_zero, List.mem_cons, Prod.mk.injEq, List.not_mem_nil, implies_true, List.getElem?_toArray, List.getElem?_cons_zero, List.getElem?_cons_succ, List.getElem?_nil, Option.getD_some, Option.getD_none, Nat.reduceEqDiff, reduceIte, Nat.reduceAdd, List.map_toArray, List.map_cons, List.map_nil, Bool.false_eq_true, Nat.reduceBEq, Option.map_some, Option.map_none, reduceCtorEq, al45, fa45_0, fa45_1, ix43, ld3, ld43, ld45, ln43, st3, st45, h2, h3, h4, h5, h6]
    refine rW_loop (σ := Nat × List Int) (fun x tm H' => tm 2 = .pointer (some ⟨H.length, 0, none⟩) ∧ tm 3 = .pointer (some ⟨H.length + 1, 0, none⟩) ∧ tm 4 = .pointer (some ⟨cb, 0, none⟩) ∧ tm 5 = .pointer (some ⟨H2.length, 0, none⟩) ∧ tm 6 = .int .i64 m ∧ tm 7 = .pointer (some ⟨H3.length, 0, none⟩) ∧ tm 8 = .int .i64 x.1 ∧ x.1 ≤ yd.length ∧ x.2.length = yd.length ∧ LD (some cb) H H' [.box H3.length [.slice ya ys.length yc, .slice ye yd.length yf], .row (.slice ya ys.length yc) ys, .row (.slice ye yd.length yf) x.2, .box H2.length [.slice xa xs.length xc, .slice xe xd.length xf], .row (.slice xa xs.length xc) xs, .row (.slice xe xd.length xf) xd, .box (H.length + 1) [.slice none 0 0, .slice none 0 0], .box H.length [.slice none 0 0, .slice none 0 0]]) (fun x => yd.length - x.1) (0, yd) ?_ ?_
    · exact ⟨h2, h3, h4, h5, h6, rfl, rfl, Nat.zero_le _, rfl, q⟩
    · rintro ⟨i, l⟩ tm H4 ⟨h2, h3, h4, h5, h6, h7, h8, hi, hl, q⟩
      simp only at h8 hi hl q
      simp -implicitDefEqProofs only [kk0, kk1, kk2, kk3, rW_block, ↓two_true, ↓two_false, rW_cond, rO_guard, oS_some, oM_some, mkv, aggAt, Nat.reduceLeDiff, Nat.reduceSub, Nat.reduceMul, cond_true, cond_false, Option.bind_some, List.length_append, List.length_cons, List.length_nil, List.append_assoc, List.cons_append, List.nil_append, List.set_cons_zero, List.set_cons_succ, List.size_toArray, List.all_cons, List.all_nil, List.drop_zero, List.drop_succ_cons, List.take_succ_cons, List.take_zero, List.mem_cons, Prod.mk.injEq, List.not_mem_nil, implies_true, List.getElem?_toArray, List.getElem?_cons_zero, List.getElem?_cons_succ, List.getElem?_nil, Option.getD_some, Option.getD_none, Nat.reduceEqDiff, reduceIte, Nat.reduceAdd, List.map_toArray, List.map_cons, List.map_nil, Bool.false_eq_true, Nat.reduceBEq, Option.map_some, Option.map_none, reduceCtorEq, al45, fa45_0, fa45_1, ix43, ld3, ld43, ld45, ln43, st3, st45, h2, h3, h4, h5, h6, h7, h8, (q.rd 0 rfl).1]
      refine two_intro (fun hc => ?_) (fun hc => ⟨l, hl, q⟩)
      have hc' : i < yd.length := by simpa using hc
      refine (l1Once_ok (q.cur _ rfl)).mono ?_
      rintro _ H5 ⟨⟨b, rfl⟩, hf⟩
      have q := q.call hf
      simp -implicitDefEqProofs only [kk0, kk1, kk2, kk3, rW_block, ↓two_true, ↓two_false, rW_cond, rO_guard, oS_some, oM_some, mkv, aggAt, Nat.reduceLeDiff, Nat.reduceSub, Nat.reduceMul, cond_true, cond_false, Option.bind_some, List.length_append, List.length_cons, List.length_nil, List.append_assoc, List.cons_append, List.nil_append, List.set_cons_zero, List.set_cons_succ, List.size_toArray, List.all_cons, List.all_nil, List.drop_zero, List.drop_succ_cons, List.take_succ_cons, List.take_zero, List.mem_cons, Prod.mk.injEq, List.not_mem_nil, implies_true, List.getElem?_toArray, List.getElem?_cons_zero, List.getElem?_cons_succ, List.getElem?_nil, Option.getD_some, Option.getD_none, Nat.reduceEqDiff, reduceIte, Nat.reduceAdd, List.map_toArray, List.map_cons, List.map_nil, Bool.false_eq_true, Nat.reduceBEq, Option.map_some, Option.map_none, reduceCtorEq, al45, fa45_0, fa45_1, ix43, ld3, ld43, ld45, ln43, st3, st45, h2, h3, h4, h5, h6, h7, h8, (q.rd 0 rfl).1]
      refine two_intro (fun hc => ?_) (fun hc => ⟨l, hl, q⟩)
      have e5 := (q.rd 0 rfl).1
      refine (l1Below_ok (q.cur _ rfl)).mono ?_
      rintro _ H6 ⟨⟨z, rfl, -⟩, hf⟩
      have q := q.call hf
      obtain ⟨b, o, cs, hv, hw, -, hle, -, q'⟩ := q.wr 2 rfl (k := i) (by omega)
      injection hv with e1 _ e2
      subst e1; subst e2
      simp -implicitDefEqProofs only [kk0, kk1, kk2, kk3, rW_block, ↓two_true, ↓two_false, rW_cond, rO_guard, oS_some, oM_some, mkv, aggAt, Nat.reduceLeDiff, Nat.reduceSub, Nat.reduceMul, cond_true, cond_false, Option.bind_some, List.length_append, List.length_cons, List.length_nil, List.append_assoc, List.cons_append, List.nil_append, List.set_cons_zero, List.set_cons_succ, List.size_toArray, List.all_cons, List.all_nil, List.drop_zero, List.drop_succ_cons, List.take_succ_cons, List.take_zero, List.mem_cons, Prod.mk.injEq, List.not_mem_nil, implies_true, List.getElem?_toArray, List.getElem?_cons_zero, List.getElem?_cons_succ, List.getElem?_nil, Option.getD_some, Option.getD_none, Nat.reduceEqDiff, reduceIte, Nat.reduceAdd, List.map_toArray, List.map_cons, List.map_nil, Bool.false_eq_true, Nat.reduceBEq, Option.map_some, Option.map_none, reduceCtorEq, al45, fa45_0, fa45_1, ix43, ld3, ld43, ld45, ln43, st3, st45, h2, h3, h4, h5, h6, h7, h8, e5, (q.rd 0 rfl).1, Int.toNat_natCast, Nat.mul_one, hw, IntWalk.i64_in (↑i + 1) (by omega)]
      exact ⟨⟨by omega, by omega⟩, by omega, (i + 1, _), by simp only; omega, by simp, hc', (List.length_set ..).trans hl, q' _⟩
  rintro tm H4 ⟨h2, h3, h4, h5, h6, h7, l, hl, q⟩
  simp -implicitDefEqProofs only [kk0, kk1, kk2, kk3, rW_block, ↓two_true, ↓two_false, rW_cond, rO_guard, oS_some, oM_some, mkv, aggAt, Nat.reduceLeDiff, Nat.reduceSub, Nat.reduceMul, cond_true, cond_false, Option.bind_some, List.length_append, List.length_cons, List.length_nil, List.append_assoc, List.cons_append, List.nil_append, List.set_cons_zero, List.set_cons_succ, List.size_toArray, List.all_cons, List.all_nil, List.drop_zero, List.drop_succ_cons, List.take_succ_cons, List.take_zero, List.mem_cons, Prod.mk.injEq, List.not_mem_nil, implies_true, List.getElem?_toArray, List.getElem?_cons_zero, List.getElem?_cons_succ, List.getElem?_nil, Option.getD_some, Option.getD_none, Nat.reduceEqDiff, reduceIte, Nat.reduceAdd, List.map_toArray, List.map_cons, List.map_nil, Bool.false_eq_true, Nat.reduceBEq, Option.map_some, Option.map_none, reduceCtorEq, al45, fa45_0, fa45_1, ix43, ld3, ld43, ld45, ln43, st3, st45, h2, h3, h4, h5, h6, h7]
  refine (l1Once_ok (q.cur _ rfl)).mono ?_
  rintro _ H5 ⟨⟨b, rfl⟩, hf⟩
  have q := q.call hf
  simp -implicitDefEqProofs only [kk0, kk1, kk2, kk3, rW_block, ↓two_true, ↓two_false, rW_cond, rO_guard, oS_some, oM_some, mkv, aggAt, Nat.reduceLeDiff, Nat.reduceSub, Nat.reduceMul, cond_true, cond_false, Option.bind_some, List.length_append, List.length_cons, List.length_nil, List.append_assoc, List.cons_append, List.nil_append, List.set_cons_zero, List.set_cons_succ, List.size_toArray, List.all_cons, List.all_nil, List.drop_zero, List.drop_succ_cons, List.take_succ_cons, List.take_zero, List.mem_cons, Prod.mk.injEq, List.not_mem_nil, implies_true, List.getElem?_toArray, List.getElem?_cons_zero, List.getElem?_cons_succ, List.getElem?_nil, Option.getD_some, Option.getD_none, Nat.reduceEqDiff, reduceIte, Nat.reduceAdd, List.map_toArray, List.map_cons, List.map_nil, Bool.false_eq_true, Nat.reduceBEq, Option.map_some, Option.map_none, reduceCtorEq, al45, fa45_0, fa45_1, ix43, ld3, ld43, ld45, ln43, st3, st45, h2, h3, h4, h5, h6, h7]
  refine two_intro (fun h => ?_) (fun h => ?_)
  · refine (l1Below_ok (q.cur _ rfl)).mono ?_
    rintro _ H6 ⟨⟨z, rfl, -⟩, hf⟩
    have q := q.call hf
    simp -implicitDefEqProofs only [kk0, kk1, kk2, kk3, rW_block, ↓two_true, ↓two_false, rW_cond, rO_guard, oS_some, oM_some, mkv, aggAt, Nat.reduceLeDiff, Nat.reduceSub, Nat.reduceMul, cond_true, cond_false, Option.bind_some, List.length_append, List.length_cons, List.length_nil, List.append_assoc, List.cons_append, List.nil_append, List.set_cons_zero, List.set_cons_succ, List.size_toArray, List.all_cons, List.all_nil, List.drop_zero, List.drop_succ_cons, List.take_succ_cons, List.take_zero, List.mem_cons, Prod.mk.injEq, List.not_mem_nil, implies_true, List.getElem?_toArray, List.getElem?_cons_zero, List.getElem?_cons_succ, List.getElem?_nil, Option.getD_some, Option.getD_none, Nat.reduceEqDiff, reduceIte, Nat.reduceAdd, List.map_toArray, List.map_cons, List.map_nil, Bool.false_eq_true, Nat.reduceBEq, Option.map_some, Option.map_none, reduceCtorEq, al45, fa45_0, fa45_1, ix43, ld3, ld43, ld45, ln43, st3, st45, h2, h3, h4, h5, h6, h7]
    refine l3Scalar_ok.mono ?_
    rintro _ H7 ⟨b, rfl, g⟩
    have q := q.join g
    have e6 := (q.rd 1 rfl).2
    have q := q.set 1 rfl [.slice none 0 0, .slice (some ⟨b, 0, none⟩) 1 1]
    simp -implicitDefEqProofs only [kk0, kk1, kk2, kk3, rW_block, ↓two_true, ↓two_false, rW_cond, rO_guard, oS_some, oM_some, mkv, aggAt, Nat.reduceLeDiff, Nat.reduceSub, Nat.reduceMul, cond_true, cond_false, Option.bind_some, List.length_append, List.length_cons, List.length_nil, List.append_assoc, List.cons_append, List.nil_append, List.set_cons_zero, List.set_cons_succ, List.size_toArray, List.all_cons, List.all_nil, List.drop_zero, List.drop_succ_cons, List.take_succ_cons, List.take_zero, List.mem_cons, Prod.mk.injEq, List.not_mem_nil, implies_true, List.getElem?_toArray, List.getElem?_cons_zero, List.getElem?_cons_succ, List.getElem?_nil, Option.getD_some, Option.getD_none, Nat.reduceEqDiff, reduceIte, Nat.reduceAdd, List.map_toArray, List.map_cons, List.map_nil, Bool.false_eq_true, Nat.reduceBEq, Option.map_some, Option.map_none, reduceCtorEq, al45, fa45_0, fa45_1, ix43, ld3, ld43, ld45, ln43, st3, st45, h2, h3, h4, h5, h6, h7, e6]
    have w2 := q.set 8 rfl [.slice none 0 0, .slice (some ⟨b, 0, none⟩) 1 1]
    have w3 := w2.set 7 rfl [.slice xa xs.length xc, .slice xe xd.length xf]
    simp -implicitDefEqProofs only [kk0, kk1, kk2, kk3, rW_block, ↓two_true, ↓two_false, rW_cond, rO_guard, oS_some, oM_some, mkv, aggAt, Nat.reduceLeDiff, Nat.reduceSub, Nat.reduceMul, cond_true, cond_false, Option.bind_some, List.length_append, List.length_cons, List.length_nil, List.append_assoc, List.cons_append, List.nil_append, List.set_cons_zero, List.set_cons_succ, List.size_toArray, List.all_cons, List.all_nil, List.drop_zero, List.drop_succ_cons, List.take_succ_cons, List.take_zero, List.mem_cons, Prod.mk.injEq, List.not_mem_nil, implies_true, List.getElem?_toArray, List.getElem?_cons_zero, List.getElem?_cons_succ, List.getElem?_nil, Option.getD_some, Option.getD_none, Nat.reduceEqDiff, reduceIte, Nat.reduceAdd, List.map_toArray, List.map_cons, List.map_nil, Bool.false_eq_true, Nat.reduceBEq, Option.map_some, Option.map_none, reduceCtorEq, al45, fa45_0, fa45_1, ix43, ld3, ld43, ld45, ln43, st3, st45, h2, h3, h4, h5, h6, h7, (q.rd 1 rfl).1, (q.rd 4 rfl).1, (w2.rd 4 rfl).1, (q.rd 8 rfl).2, (w2.rd 7 rfl).2, (w3.rd 8 rfl).1, (w3.rd 7 rfl).1]
    exact ⟨_, _, _, _, _, _, _, _, rfl, (w3.out (by omega)).pick [9, 0, 5, 6] (by decide), Nat.zero_le _, by simp, by omega, by omega⟩
  · have w2 := q.set 7 rfl [.slice ya ys.length yc, .slice ye yd.length yf]
    have w3 := w2.set 6 rfl [.slice xa xs.length xc, .slice xe xd.length xf]
    simp -implicitDefEqProofs only [kk0, kk1, kk2, kk3, rW_block, ↓two_true, ↓two_false, rW_cond, rO_guard, oS_some, oM_some, mkv, aggAt, Nat.reduceLeDiff, Nat.reduceSub, Nat.reduceMul, cond_true, cond_false, Option.bind_some, List.length_append, List.length_cons, List.length_nil, List.append_assoc, List.cons_append, List.nil_append, List.set_cons_zero, List.set_cons_succ, List.size_toArray, List.all_cons, List.all_nil, List.drop_zero, List.drop_succ_cons, List.take_succ_cons, List.take_zero, List.mem_cons, Prod.mk.injEq, List.not_mem_nil, implies_true, List.getElem?_toArray, List.getElem?_cons_zero, List.getElem?_cons_succ, List.getElem?_nil, Option.getD_some, Option.getD_none, Nat.reduceEqDiff, reduceIte, Nat.reduceAdd, List.map_toArray, List.map_cons, List.map_nil, Bool.false_eq_true, Nat.reduceBEq, Option.map_some, Option.map_none, reduceCtorEq, al45, fa45_0, fa45_1, ix43, ld3, ld43, ld45, ln43, st3, st45, h2, h3, h4, h5, h6, h7, (q.rd 0 rfl).1, (q.rd 3 rfl).1, (w2.rd 3 rfl).1, (q.rd 7 rfl).2, (w2.rd 6 rfl).2, (w3.rd 7 rfl).1, (w3.rd 6 rfl).1]
    exact ⟨_, _, _, _, _, _, _, _, rfl, (w3.out (by omega)).pick [1, 2, 4, 5] (by decide), by omega, by omega, by omega, by omega⟩

def Ans1 (H H' : AH) (r : Value) (R : (List Int × List Int) × Int) : Prop := ∃ p q, r = .tuple #[.agg #[p, q], .int .i64 R.2] ∧ LD none H H' [.row p R.1.1, .row q R.1.2]
/-- A value that is an array, without a code. -/
def AnsA (H H' : AH) (r : Value) (R : List Int × List Int) : Prop := ∃ p q, r = .agg #[p, q] ∧ LD none H H' [.row p R.1, .row q R.2]
theorem Ans1.err {H H' : AH} {c : Int} {L : List It} (h : LD none H H' L) : Ans1 H H' (.tuple #[.agg #[.slice none 0 0, .slice none 0 0], .int .i64 c]) (([], []), c) :=
  ⟨_, _, rfl, (h.pick [] (by decide)).nrow2 ⟨OwnRow.nil, fun b hb => by simp [blkOf] at hb⟩ ⟨OwnRow.nil, fun b hb => by simp [blkOf] at hb⟩ (fun b hb => by simp [blkOf] at hb) ext_refl⟩
theorem LD.ans {H H' : AH} {L : List It} {p q : Value} {c : Int} {sh dt : List Int} (h : LD none H H' L) (i j : Nat) (hij : i ≠ j) (hi : L[i]? = some (.row p sh)) (hj : L[j]? = some (.row q dt)) : Ans1 H H' (.tuple #[.agg #[p, q], .int .i64 c]) ((sh, dt), c) := by
  have := h.pick [i, j] (by simp [hij])
  simp only [pickL, List.map_cons, List.map_nil, hi, hj, Option.getD_some] at this
  exact ⟨_, _, rfl, this⟩
theorem AR.o1 {H : AH} {p q : Value} {sh dt : List Int} (h : AR H p q sh dt) : ∃ a c b d, p = .slice a sh.length c ∧ q = .slice b dt.length d := by
  obtain ⟨a, c, e, _⟩ := h.os.op
  obtain ⟨b, d, e', _⟩ := h.od.op
  exact ⟨a, c, b, d, e, e'⟩
/-- The cells of a row that may be read. -/
theorem IntRow.cells {H : AH} {a : Option Addr} {n c : Nat} {l : List Int} (h : IntRow H (.slice a n c) l) {i : Nat} (hi : i < l.length) : n = l.length ∧ ∃ b o cs, a = some ⟨b, o, none⟩ ∧ c = 1 ∧ rd H b = some cs ∧ cs[o + i]? = some (.int .i64 l[i]) := by
  obtain ⟨a', c', e, g⟩ := h.op
  injection e with e1 e2 e3
  subst e1; subst e2; subst e3
  obtain ⟨b, o, cs, g1, g2, g3, g4, g5⟩ := g (by omega)
  exact ⟨rfl, b, o, cs, g1, g2, g3, g5 i hi⟩
theorem AR.lim {H : AH} {p q : Value} {sh dt : List Int} (h : AR H p q sh dt) : sh.length < 4611686018427387904 ∧ dt.length < 4611686018427387904 := by
  have := h.l1; have := h.l2; omega
theorem implOk_ar {H : AH} {p q : Value} {sh dt : List Int} (h : AR H p q sh dt) : CallsA Try.prog 47 #[.agg #[p, q]] H fun r H' => r = .bool (arrOk sh dt) ∧ ∃ K, H' = H ++ K := implArrayOk_ok h.os h.od h.lim.1 h.lim.2

theorem specOk_ar {H : AH} {p q : Value} {sh dt : List Int} (h : AR H p q sh dt) : CallsA Try.prog 54 #[.agg #[p, q]] H fun r H' => r = .bool (arrOk sh dt) ∧ ∃ K, H' = H ++ K := specArrayOk_ok h.os h.od h.lim.1 h.lim.2

theorem copyA_ok {H : AH} {p q : Value} {sh dt : List Int} (h : AR H p q sh dt) : CallsA Try.prog 93 #[.agg #[p, q]] H fun r H' => AnsA H H' r (sh, dt) := by
  refine (copyArray_ok h.os h.od (by have := h.l1; omega) (by have := h.l2; omega)).mono ?_
  rintro r H' ⟨⟨p', q', ao⟩, he⟩
  exact ⟨p', q', ao.eq, LD.nil.aown ao he⟩

/-- A table whose cells lie in what is never turned; its own block is the function's. -/
structure TabOk (B : Nat → Prop) (H : AH) (v : Value) (ks : List CK) (n : Nat) (xs : List Value) : Prop where
  len : xs.length = n * ks.length
  row : (v = .slice none 0 0 ∧ n = 0) ∨ ∃ b o cs, v = .slice (some ⟨b, o, none⟩) n ks.length ∧ H[b]? = some ⟨cs, .own⟩ ∧ o + n * ks.length ≤ cs.length ∧ ∀ (j : Nat) y, xs[j]? = some y → cs[o + j]? = some y
  cell : ∀ (i c : Nat) k y, i < n → ks[c]? = some k → xs[i * ks.length + c]? = some y → KOk H k y
  base : ∀ y ∈ xs, ∀ b, blkOf y = some b → B b
theorem TabOk.frow {B : Nat → Prop} {H : AH} {v : Value} {ks : List CK} {n : Nat} {xs : List Value} (h : TabOk B H v ks n xs) : FRow H v ks n xs := by
  refine ⟨h.len, ?_, h.cell⟩
  rcases h.row with h1 | ⟨b, o, cs, h1, h2, h3⟩
  · exact .inl h1
  · exact .inr ⟨b, o, cs, h1, rd_own h2, h3⟩
theorem TabOk.same {B B' : Nat → Prop} {H H' : AH} {v : Value} {ks : List CK} {n : Nat} {xs : List Value} (h : TabOk B H v ks n xs) (hv : ∀ b, blkOf v = some b → H'[b]? = H[b]?) (hB : ∀ b, B b → H'[b]? = H[b]?) (hBB : ∀ b, B b → B' b) : TabOk B' H' v ks n xs := by
  refine ⟨h.len, ?_, fun i c k y hi hk hy => (h.cell i c k y hi hk hy).same fun b hb => get_rd (hB b (h.base y (List.mem_of_getElem? hy) b hb)), fun y hy b hb => hBB b (h.base y hy b hb)⟩
  rcases h.row with h1 | ⟨b, o, cs, h1, h2, h3⟩
  · exact .inl h1
  · exact .inr ⟨b, o, cs, h1, by rw [hv b (by rw [h1]; rfl)]; exact h2, h3⟩
theorem TabOk.vals {B : Nat → Prop} {H H' : AH} {v : Value} {ks : List CK} {n : Nat} {xs : List Value} (h : TabOk B H v ks n xs) (hB : ∀ b, B b → H'[b]? = H[b]?) : cvs H' xs = cvs H xs :=
  FRow.cvs_same fun b ⟨y, hy, hb⟩ => get_rd (hB b (h.base y hy b hb))
/-- A table that is only read. -/
structure FTab (B : Nat → Prop) (H : AH) (v : Value) (ks : List CK) (n : Nat) (xs : List Value) : Prop where
  fr : FRow H v ks n xs
  base : ∀ b, (blkOf v = some b ∨ ∃ y ∈ xs, blkOf y = some b) → B b
inductive Ix where
  | own (x : It)
  | tab (v : Value) (ks : List CK) (n : Nat) (xs : List Value) (V : List CV)
  | fro (v : Value) (l : List Int)
  | ftab (v : Value) (ks : List CK) (n : Nat) (xs : List Value) (V : List CV)
def Ix.ok (B : Nat → Prop) (H : AH) : Ix → Prop
  | .own x => x.ok H
  | .tab v ks n xs V => TabOk B H v ks n xs ∧ cvs H xs = V
  | .fro v l => IntRow H v l ∧ ∀ b, blkOf v = some b → B b
  | .ftab v ks n xs V => FTab B H v ks n xs ∧ cvs H xs = V
def Ix.bs : Ix → Nat → Prop
  | .own x, b => x.bs b
  | .tab v _ _ _ _, b => blkOf v = some b
  | .fro _ _, _ => False
  | .ftab _ _ _ _ _, _ => False
theorem Ix.ok.same {B B' : Nat → Prop} {H H' : AH} {x : Ix} (h : x.ok B H) (hs : ∀ b, x.bs b → H'[b]? = H[b]?) (hB : ∀ b, B b → H'[b]? = H[b]?) (hBB : ∀ b, B b → B' b) : x.ok B' H' := by
  cases x with
  | own x => exact It.ok.same h hs
  | tab v ks n xs V => exact ⟨h.1.same hs hB hBB, (h.1.vals hB).trans h.2⟩
  | fro v l => exact ⟨h.1.same fun b o n c e => get_rd (hB b (h.2 b (by rw [e]; rfl))), fun b hb => hBB b (h.2 b hb)⟩
  | ftab v ks n xs V => exact ⟨⟨h.1.fr.same fun b hb => get_rd (hB b (h.1.base b hb)), fun b hb => hBB b (h.1.base b hb)⟩, (FRow.cvs_same fun b hb => get_rd (hB b (h.1.base b (.inr hb)))).trans h.2⟩
theorem Ix.ok.ownb {B : Nat → Prop} {H : AH} {x : Ix} (h : x.ok B H) : ∀ b, x.bs b → ∃ cs, H[b]? = some (⟨cs, .own⟩ : Blk) := by
  intro b hb
  cases x with
  | own x => exact It.ok.ownb h b hb
  | tab v ks n xs V =>
    rcases h.1.row with ⟨e, _⟩ | ⟨b', o, cs, e, h2, _⟩
    · rw [e] at hb; simp [Ix.bs, blkOf] at hb
    · rw [e] at hb; simp [Ix.bs, blkOf] at hb; subst hb; exact ⟨cs, h2⟩
  | fro v l => exact hb.elim
  | ftab v ks n xs V => exact hb.elim
theorem Ix.ok.lt {B : Nat → Prop} {H : AH} {x : Ix} (h : x.ok B H) : ∀ b, x.bs b → b < H.length := fun b hb => by
  obtain ⟨cs, h⟩ := h.ownb b hb
  exact (List.getElem?_eq_some_iff.1 h).1
structure LB (B : Nat → Prop) (c : Option Nat) (H0 H : AH) (L : List Ix) : Prop where
  ok : ∀ (i : Nat) x, L[i]? = some x → x.ok B H
  fr : ∀ (i : Nat) x, L[i]? = some x → ∀ b, x.bs b → ¬ B b ∧ H0.length ≤ b
  dj : ∀ (i j : Nat) x y, i ≠ j → L[i]? = some x → L[j]? = some y → ∀ b, x.bs b → ¬ y.bs b
  len : H0.length ≤ H.length
  keep : ∀ b, b < H0.length → c ≠ some b → H[b]? = H0[b]?
  b0 : ∀ b, b < H0.length → c ≠ some b → B b
  bl : ∀ b, B b → b < H.length ∧ c ≠ some b
  cur : ∀ cb, c = some cb → Cur H cb
  nc : ∀ cb, c = some cb → ∀ (i : Nat) x, L[i]? = some x → ¬ x.bs cb
/-- What a function holds: each by itself, none older than the call; and what it only reads. -/
def LX (c : Option Nat) (H0 H : AH) (L : List Ix) : Prop := ∃ B, LB B c H0 H L
theorem LX.ext {H0 H : AH} {L : List Ix} (h : LX none H0 H L) : ∃ K, H = H0 ++ K := by
  obtain ⟨B, h⟩ := h
  exact ext_of h.len fun b hb => h.keep b hb (by simp)
theorem LX.frm {cb : Nat} {H0 H : AH} {L : List Ix} (h : LX (some cb) H0 H L) : Frm cb H0 H := by
  obtain ⟨B, h⟩ := h
  exact ⟨h.len, fun b hb hn => h.keep b hb (by simpa using Ne.symm hn), h.cur cb rfl⟩
theorem LX.len {c : Option Nat} {H0 H : AH} {L : List Ix} (h : LX c H0 H L) : H0.length ≤ H.length := by
  obtain ⟨B, h⟩ := h; exact h.len
theorem LX.nil {H : AH} : LX none H H [] :=
  ⟨fun b => b < H.length, fun i x h => by simp at h, fun i x h => by simp at h, fun i j x y _ h => by simp at h, Nat.le_refl _, fun _ _ _ => rfl, fun b hb _ => hb, fun b hb => ⟨hb, by simp⟩, fun _ h => by simp at h, fun _ h => by simp at h⟩
/-- The heap turns, but for what is held or only read. -/
theorem LB.add {B : Nat → Prop} {c : Option Nat} {H0 H H' : AH} {L : List Ix} {x : Ix} (h : LB B c H0 H L) (hl : H.length ≤ H'.length) (hk : ∀ b, b < H.length → c ≠ some b → H'[b]? = H[b]?) (hc : ∀ cb, c = some cb → Cur H' cb) (hx : x.ok B H') (hb : ∀ b, x.bs b → H.length ≤ b) : LB B c H0 H' (x :: L) := by
  have same : ∀ (i : Nat) y, L[i]? = some y → y.ok B H' := fun i y hy => (h.ok i y hy).same (fun b hb => hk b ((h.ok i y hy).lt b hb) fun e => h.nc b e i y hy hb) (fun b hb => hk b (h.bl b hb).1 (h.bl b hb).2) fun b hb => hb
  refine ⟨?_, ?_, ?_, Nat.le_trans h.len hl, fun b hb hn => ?_, h.b0, fun b hb => ⟨Nat.lt_of_lt_of_le (h.bl b hb).1 hl, (h.bl b hb).2⟩, hc, fun cb e => ?_⟩
  · rintro (_ | i) y hy
    · cases hy; exact hx
    · exact same i y hy
  · rintro (_ | i) y hy b hb2
    · cases hy
      exact ⟨fun hB => by have := (h.bl b hB).1; have := hb b hb2; omega, Nat.le_trans h.len (hb b hb2)⟩
    · exact h.fr i y hy b hb2
  · rintro (_ | i) (_ | j) y z hne hy hz b h1 h2
    · exact hne rfl
    · cases hy; have := hb b h1; have := (h.ok j z hz).lt b h2; omega
    · cases hz; have := hb b h2; have := (h.ok i y hy).lt b h1; omega
    · exact h.dj i j y z (by omega) hy hz b h1 h2
  · rw [hk b (Nat.lt_of_lt_of_le hb h.len) hn, h.keep b hb hn]
  · rintro (_ | i) y hy h2
    · cases hy; have := hb cb h2; have := (h.cur cb e).lt; omega
    · exact h.nc cb e i y hy h2
theorem LB.tail {B : Nat → Prop} {c : Option Nat} {H0 H : AH} {L : List Ix} {x : Ix} (h : LB B c H0 H (x :: L)) : LB B c H0 H L :=
  ⟨fun i y hy => h.ok (i + 1) y hy, fun i y hy => h.fr (i + 1) y hy, fun i j y z hne hy hz => h.dj (i + 1) (j + 1) y z (by omega) hy hz, h.len, h.keep, h.b0, h.bl, h.cur, fun cb e i y hy => h.nc cb e (i + 1) y hy⟩
theorem LX.tail {c : Option Nat} {H0 H : AH} {L : List Ix} {x : Ix} (h : LX c H0 H (x :: L)) : LX c H0 H L := by
  obtain ⟨B, h⟩ := h; exact ⟨B, h.tail⟩
theorem LB.grow {B : Nat → Prop} {c : Option Nat} {H0 H H' : AH} {L : List Ix} (h : LB B c H0 H L) (hl : H.length ≤ H'.length) (hk : ∀ b, b < H.length → c ≠ some b → H'[b]? = H[b]?) (hc : ∀ cb, c = some cb → Cur H' cb) : LB B c H0 H' L :=
  (h.add (x := .own (.row (.slice none 0 0) [])) hl hk hc OwnRow.nil fun b hb => by simp [Ix.bs, It.bs, blkOf] at hb).tail
theorem LX.call {cb : Nat} {H0 H H' : AH} {L : List Ix} (h : LX (some cb) H0 H L) (hf : Frm cb H H') : LX (some cb) H0 H' L := by
  obtain ⟨B, h⟩ := h
  exact ⟨B, h.grow hf.len (fun b hb hn => hf.keep b hb (by simpa using Ne.symm hn)) (fun g e => by cases e; exact hf.cur)⟩
theorem LX.extd {c : Option Nat} {H0 H H' : AH} {L : List Ix} (h : LX c H0 H L) (hf : ∃ K, H' = H ++ K) : LX c H0 H' L := by
  obtain ⟨B, h⟩ := h
  obtain ⟨K, rfl⟩ := hf
  exact ⟨B, h.grow (by simp) (fun b hb _ => List.getElem?_append_left hb) (fun g e => (h.cur g e).mono)⟩
/-- One thing is turned. -/
theorem LB.upd {B : Nat → Prop} {c : Option Nat} {H0 H H' : AH} {L : List Ix} {x x' : Ix} (h : LB B c H0 H L) (i : Nat) (hi : L[i]? = some x) (hl : H.length ≤ H'.length) (hk : ∀ b, b < H.length → ¬ x.bs b → H'[b]? = H[b]?) (hx : x'.ok B H') (hb : ∀ b, x'.bs b → x.bs b ∨ H.length ≤ b) : LB B c H0 H' (L.set i x') := by
  have hil := (List.getElem?_eq_some_iff.1 hi).1
  have get : ∀ (j : Nat) y, (L.set i x')[j]? = some y → (j = i ∧ y = x') ∨ (j ≠ i ∧ L[j]? = some y) := fun j y hy => by
    rcases Nat.decEq i j with e | e
    · rw [List.getElem?_set_ne e] at hy; exact .inr ⟨Ne.symm e, hy⟩
    · subst e; rw [List.getElem?_set_self hil] at hy; cases hy; exact .inl ⟨rfl, rfl⟩
  have hB : ∀ b, B b → H'[b]? = H[b]? := fun b hb => hk b (h.bl b hb).1 fun e => (h.fr i x hi b e).1 hb
  refine ⟨fun j y hy => ?_, fun j y hy b hb2 => ?_, fun j k y z hne hy hz b e1 e2 => ?_, Nat.le_trans h.len hl, fun b hb2 hn => ?_, h.b0, fun b hb => ⟨Nat.lt_of_lt_of_le (h.bl b hb).1 hl, (h.bl b hb).2⟩, fun cb e => ?_, fun cb e j y hy h2 => ?_⟩
  · rcases get j y hy with ⟨rfl, rfl⟩ | ⟨hne, hy⟩
    · exact hx
    · exact (h.ok j y hy).same (fun b hb2 => hk b ((h.ok j y hy).lt b hb2) (h.dj j i y x hne hy hi b hb2)) hB fun b hb => hb
  · rcases get j y hy with ⟨rfl, rfl⟩ | ⟨hne, hy⟩
    · exact (hb b hb2).elim (h.fr j x hi b) fun h2 => ⟨fun hB2 => by have := (h.bl b hB2).1; omega, Nat.le_trans h.len h2⟩
    · exact h.fr j y hy b hb2
  · rcases get j y hy with ⟨rfl, rfl⟩ | ⟨hne1, hy'⟩
    · rcases get k z hz with ⟨rfl, rfl⟩ | ⟨hne2, hz⟩
      · exact hne rfl
      · exact (hb b e1).elim (fun e1 => h.dj j k x z hne hi hz b e1 e2) fun e1 => by have := (h.ok k z hz).lt b e2; omega
    · rcases get k z hz with ⟨rfl, rfl⟩ | ⟨hne2, hz⟩
      · exact (hb b e2).elim (fun e2 => h.dj j k y x hne hy' hi b e1 e2) fun e2 => by have := (h.ok j y hy').lt b e1; omega
      · exact h.dj j k y z hne hy' hz b e1 e2
  · rw [hk b (Nat.lt_of_lt_of_le hb2 h.len) fun e => by have := (h.fr i x hi b e).2; omega, h.keep b hb2 hn]
  · have h2 := h.cur cb e
    refine h2.same (hk cb h2.lt (h.nc cb e i x hi)) fun b cs hb2 => ?_
    rw [hk b (List.getElem?_eq_some_iff.1 hb2).1 fun e => ?_]
    · exact hb2
    · obtain ⟨cs', h3⟩ := (h.ok i x hi).ownb b e
      rw [hb2] at h3; cases h3
  · rcases get j y hy with ⟨rfl, rfl⟩ | ⟨hne1, hy'⟩
    · exact (hb cb h2).elim (h.nc cb e j x hi) fun h3 => by have := (h.cur cb e).lt; omega
    · exact h.nc cb e j y hy' h2
theorem LX.rd {c : Option Nat} {H0 H : AH} {L : List Ix} {o : Nat} {cs : List Value} (h : LX c H0 H L) (i : Nat) (hi : L[i]? = some (.own (.box o cs))) : rd H o = some cs ∧ wrt H o = some cs := by
  obtain ⟨B, h⟩ := h
  exact ⟨rd_own (h.ok i _ hi), wrt_own (h.ok i _ hi)⟩
theorem LX.own {c : Option Nat} {H0 H : AH} {L : List Ix} {v : Value} {l : List Int} (h : LX c H0 H L) (i : Nat) (hi : L[i]? = some (.own (.row v l))) : OwnRow H v l := by
  obtain ⟨B, h⟩ := h; exact h.ok i _ hi
theorem LX.int {c : Option Nat} {H0 H : AH} {L : List Ix} {v : Value} {l : List Int} (h : LX c H0 H L) (i : Nat) (hi : L[i]? = some (.own (.row v l))) : IntRow H v l := (h.own i hi).int
theorem LX.cur {H0 H : AH} {L : List Ix} {cb : Nat} (h : LX (some cb) H0 H L) : Cur H cb := by
  obtain ⟨B, h⟩ := h; exact h.cur cb rfl
theorem LX.nc {H0 H : AH} {L : List Ix} {cb : Nat} {v : Value} {l : List Int} (h : LX (some cb) H0 H L) (i : Nat) (hi : L[i]? = some (.own (.row v l))) : blkOf v ≠ some cb := by
  obtain ⟨B, h⟩ := h
  exact h.nc cb rfl i _ hi
theorem LX.box {c : Option Nat} {H0 H : AH} {L : List Ix} (h : LX c H0 H L) (cs : List Value) : LX c H0 (H ++ [⟨cs, .own⟩]) (.own (.box H.length cs) :: L) := by
  obtain ⟨B, h⟩ := h
  exact ⟨B, h.add (by simp) (fun b hb _ => List.getElem?_append_left hb) (fun g e => (h.cur g e).mono) (by show (H ++ [⟨cs, .own⟩])[H.length]? = _; rw [gt0]; rfl) fun b hb => by cases hb; exact Nat.le_refl _⟩
theorem LX.nrow {c : Option Nat} {H0 H H' : AH} {L : List Ix} {v : Value} {l : List Int} (h : LX c H0 H L) (hv : DR H H' v l) (hf : ∃ K, H' = H ++ K) : LX c H0 H' (.own (.row v l) :: L) := by
  obtain ⟨B, h⟩ := h
  obtain ⟨K, rfl⟩ := hf
  exact ⟨B, h.add (by simp) (fun b hb _ => List.getElem?_append_left hb) (fun g e => (h.cur g e).mono) hv.own hv.fr⟩
theorem LX.nil0 {c : Option Nat} {H0 H : AH} {L : List Ix} (h : LX c H0 H L) : LX c H0 H (.own (.row (.slice none 0 0) []) :: L) :=
  h.nrow ⟨OwnRow.nil, fun b hb => by simp [blkOf] at hb⟩ ext_refl
theorem LX.set {c : Option Nat} {H0 H : AH} {L : List Ix} {o : Nat} {cs : List Value} (h : LX c H0 H L) (i : Nat) (hi : L[i]? = some (.own (.box o cs))) (cs' : List Value) : LX c H0 (H.set o ⟨cs', .own⟩) (L.set i (.own (.box o cs'))) := by
  obtain ⟨B, h⟩ := h
  exact ⟨B, h.upd i hi (by simp) (fun b hb hn => List.getElem?_set_ne (fun e => hn e.symm)) (set_at (h.ok i _ hi)) fun b hb => .inl hb⟩
theorem LX.push {c : Option Nat} {H0 H H' : AH} {L : List Ix} {v v' : Value} {l m : List Int} (h : LX c H0 H L) (i : Nat) (hi : L[i]? = some (.own (.row v l))) (ho : OwnRow H' v' m) (ha : App H v H' v') : LX c H0 H' (L.set i (.own (.row v' m))) := by
  obtain ⟨B, h⟩ := h
  exact ⟨B, h.upd i hi ha.len ha.keep ho ha.new⟩
theorem LX.wr {c : Option Nat} {H0 H : AH} {L : List Ix} {v : Value} {l : List Int} {k : Nat} (h : LX c H0 H L) (i : Nat) (hi : L[i]? = some (.own (.row v l))) (hk : k < l.length) :
    ∃ b o cs, v = .slice (some ⟨b, o, none⟩) l.length 1 ∧ wrt H b = some cs ∧ Go.Proofs.Ytgekbancaeabgaa.AM.rd H b = some cs ∧ o + l.length ≤ cs.length ∧ (∀ (i : Nat) x, l[i]? = some x → cs[o + i]? = some (.int .i64 x)) ∧ ∀ x, LX c H0 (H.set b ⟨cs.set (o + k) (.int .i64 x), .own⟩) (L.set i (.own (.row v (l.set k x)))) := by
  obtain ⟨b, o, cs, rfl, h1, h2, h3⟩ := (h.own i hi).blk (Nat.lt_of_le_of_lt (Nat.zero_le _) hk)
  obtain ⟨B, h⟩ := h
  exact ⟨b, o, cs, rfl, wrt_own h1, rd_own h1, h2, h3, fun x => ⟨B, h.upd i hi (by simp) (fun g hg hn => List.getElem?_set_ne (fun e => hn (by rw [← e]; rfl))) (OwnRow.wr1 h1 h2 h3 hk) fun g hg => .inl hg⟩⟩
/-- What a callee leaves is held from here on. -/
theorem LX.join {c : Option Nat} {H0 H H' : AH} {L : List Ix} {L' : List It} (h : LX c H0 H L) (g : LD none H H' L') : LX c H0 H' (L'.map .own ++ L) := by
  obtain ⟨B, h⟩ := h
  obtain ⟨K, hK⟩ := g.ext
  have h1 : LB B c H0 H' L := h.grow g.len (fun b hb _ => g.keep b hb (by simp)) fun cb e => by rw [hK]; exact (h.cur cb e).mono
  have get : ∀ (i : Nat) x, (L'.map Ix.own ++ L)[i]? = some x → (∃ y, x = .own y ∧ L'[i]? = some y) ∨ (L'.length ≤ i ∧ L[i - L'.length]? = some x) := fun i x hx => by
    rcases Nat.lt_or_ge i L'.length with e | e
    · rw [List.getElem?_append_left (by simpa using e), List.getElem?_map, Option.map_eq_some_iff] at hx
      obtain ⟨y, hy, rfl⟩ := hx
      exact .inl ⟨y, rfl, hy⟩
    · rw [List.getElem?_append_right (by simpa using e), List.length_map] at hx; exact .inr ⟨e, hx⟩
  refine ⟨B, fun i x hx => ?_, fun i x hx b hb => ?_, fun i j x y hne hx hy b e1 e2 => ?_, h1.len, h1.keep, h1.b0, h1.bl, h1.cur, fun cb e i x hx hb => ?_⟩
  · rcases get i x hx with ⟨y, rfl, gx⟩ | ⟨_, hx⟩
    · exact g.ok _ y gx
    · exact h1.ok _ x hx
  · rcases get i x hx with ⟨y, rfl, gx⟩ | ⟨_, hx⟩
    · have := g.fr _ y gx b hb
      exact ⟨fun e => by have := (h.bl b e).1; omega, Nat.le_trans h.len this⟩
    · exact h1.fr _ x hx b hb
  · rcases get i x hx with ⟨x', rfl, gx⟩ | ⟨a1, hx⟩ <;> rcases get j y hy with ⟨y', rfl, gy⟩ | ⟨a2, hy⟩
    · exact g.dj i j x' y' hne gx gy b e1 e2
    · have := g.fr _ x' gx b e1; have := (h.ok _ y hy).lt b e2; omega
    · have := g.fr _ y' gy b e2; have := (h.ok _ x hx).lt b e1; omega
    · exact h1.dj _ _ x y (by omega) hx hy b e1 e2
  · rcases get i x hx with ⟨y, rfl, gx⟩ | ⟨_, hx⟩
    · have := g.fr _ y gx cb hb; have := (h.cur cb e).lt; omega
    · exact h1.nc cb e _ x hx hb
/-- What is handed back. -/
theorem LX.give {c : Option Nat} {H0 H : AH} {L : List Ix} (h : LX c H0 H L) (is : List Nat) (hn : is.Nodup) (L' : List It) (hL : is.map (fun i => L[i]?) = L'.map (fun x => some (.own x))) : LD c H0 H L' := by
  obtain ⟨B, h⟩ := h
  have get : ∀ (j : Nat) x, L'[j]? = some x → ∃ i, is[j]? = some i ∧ L[i]? = some (.own x) := fun j x hx => by
    have := congrArg (fun l => l[j]?) hL
    simp only [List.getElem?_map, hx, Option.map_some, Option.map_eq_some_iff] at this
    exact this
  refine ⟨fun j x hx => ?_, fun j x hx b hb => ?_, fun j k x y hne hx hy b e1 e2 => ?_, h.len, h.keep, h.cur, fun cb e j x hx hb => ?_⟩
  · obtain ⟨i, _, h1⟩ := get j x hx
    exact h.ok i _ h1
  · obtain ⟨i, _, h1⟩ := get j x hx
    exact (h.fr i _ h1 b hb).2
  · obtain ⟨i, hi, h1⟩ := get j x hx
    obtain ⟨i', hi', h1'⟩ := get k y hy
    refine h.dj i i' _ _ ?_ h1 h1' b e1 e2
    rintro rfl
    obtain ⟨l1, l2⟩ := List.getElem?_eq_some_iff.1 hi
    obtain ⟨l3, l4⟩ := List.getElem?_eq_some_iff.1 hi'
    have hp := List.pairwise_iff_getElem.1 hn
    rcases Nat.lt_or_gt_of_ne hne with e | e
    · exact hp _ _ l1 l3 e (l2.trans l4.symm)
    · exact hp _ _ l3 l1 e (l4.trans l2.symm)
  · obtain ⟨i, _, h1⟩ := get j x hx
    exact h.nc cb e i _ h1 hb
theorem LX.pick {c : Option Nat} {H0 H : AH} {L : List Ix} (h : LX c H0 H L) (is : List Nat) (L' : List Ix) (hL : is.map (fun i => L[i]?) = L'.map some) (hn : is.Nodup) : LX c H0 H L' := by
  obtain ⟨B, h⟩ := h
  have get : ∀ (j : Nat) x, L'[j]? = some x → ∃ i, is[j]? = some i ∧ L[i]? = some x := fun j x hx => by
    have := congrArg (fun l => l[j]?) hL
    simp only [List.getElem?_map, hx, Option.map_some, Option.map_eq_some_iff] at this
    exact this
  refine ⟨B, fun j x hx => ?_, fun j x hx b hb => ?_, fun j k x y hne hx hy b e1 e2 => ?_, h.len, h.keep, h.b0, h.bl, h.cur, fun cb e j x hx hb => ?_⟩
  · obtain ⟨i, _, h1⟩ := get j x hx
    exact h.ok i _ h1
  · obtain ⟨i, _, h1⟩ := get j x hx
    exact h.fr i _ h1 b hb
  · obtain ⟨i, hi, h1⟩ := get j x hx
    obtain ⟨i', hi', h1'⟩ := get k y hy
    refine h.dj i i' _ _ ?_ h1 h1' b e1 e2
    rintro rfl
    obtain ⟨l1, l2⟩ := List.getElem?_eq_some_iff.1 hi
    obtain ⟨l3, l4⟩ := List.getElem?_eq_some_iff.1 hi'
    have hp := List.pairwise_iff_getElem.1 hn
    rcases Nat.lt_or_gt_of_ne hne with e | e
    · exact hp _ _ l1 l3 e (l2.trans l4.symm)
    · exact hp _ _ l3 l1 e (l4.trans l2.symm)
  · obtain ⟨i, _, h1⟩ := get j x hx
    exact h.nc cb e i _ h1 hb
theorem LX.out {H0 H : AH} {L : List Ix} {cb : Nat} (h : LX (some cb) H0 H L) (hb : H0.length ≤ cb) : LX none H0 H L := by
  obtain ⟨B, h⟩ := h
  exact ⟨B, h.ok, h.fr, h.dj, h.len, fun b hb2 _ => h.keep b hb2 (by simp; omega), fun b hb2 _ => h.b0 b hb2 (by simp; omega), fun b hb => ⟨(h.bl b hb).1, by simp⟩, fun _ e => by simp at e, fun _ e => by simp at e⟩
theorem LX.cursor {H0 H H' : AH} {L : List Ix} {cb : Nat} (h : LX none H0 H L) (hf : ∃ K, H' = H ++ K) (hc : Cur H' cb) (hb : H.length ≤ cb) : LX (some cb) H0 H' L := by
  obtain ⟨B, h1⟩ := h.extd hf
  obtain ⟨B2, h⟩ := h
  have hlen := ext_len hf
  obtain ⟨K, rfl⟩ := hf
  have h3 : LB B2 none H0 (H ++ K) L := h.grow (by simp) (fun b hb _ => List.getElem?_append_left hb) (fun g e => (h.cur g e).mono)
  refine ⟨B2, h3.ok, h3.fr, h3.dj, h3.len, fun b hb _ => h3.keep b hb (by simp), fun b hb _ => h3.b0 b hb (by simp), fun b hb2 => ⟨(h3.bl b hb2).1, fun e => ?_⟩, fun g e => by cases e; exact hc, fun g e i x hx h2 => ?_⟩
  · cases e
    have := (h.bl _ hb2).1; omega
  · cases e
    have := (h.ok i x hx).lt _ h2; omega
theorem LX.da {cb : Nat} {H0 H H' : AH} {L : List Ix} {p q : Value} {sh dt : List Int} (h : LX (some cb) H0 H L) (ha : DA H H' p q sh dt) (hf : Frm cb H H') : LX (some cb) H0 H' (.own (.row p sh) :: .own (.row q dt) :: L) := by
  obtain ⟨B, h⟩ := h
  have h2 : LB B (some cb) H0 H' (.own (.row q dt) :: L) := h.add hf.len (fun b hb hn => hf.keep b hb (by simpa using Ne.symm hn)) (fun g e => by cases e; exact hf.cur) ha.dt.own ha.dt.fr
  have h1 : LB B (some cb) H0 H' (.own (.row p sh) :: L) := h.add hf.len (fun b hb hn => hf.keep b hb (by simpa using Ne.symm hn)) (fun g e => by cases e; exact hf.cur) ha.sh.own ha.sh.fr
  refine ⟨B, ?_, ?_, ?_, h1.len, h1.keep, h1.b0, h1.bl, h1.cur, fun cb e => ?_⟩
  · rintro (_ | i) y hy
    · cases hy; exact ha.sh.own
    · exact h2.ok i y hy
  · rintro (_ | i) y hy b hb
    · cases hy; exact h1.fr 0 _ rfl b hb
    · exact h2.fr i y hy b hb
  · rintro (_ | _ | i) (_ | _ | j) y z hne hy hz b e1 e2
    · exact hne rfl
    · cases hy; cases hz; exact ha.dj b e1 e2
    · exact h1.dj 0 (j + 1) y z (by omega) hy hz b e1 e2
    · cases hy; cases hz; exact ha.dj b e2 e1
    · exact hne rfl
    · exact h2.dj 0 (j + 1) y z (by omega) hy hz b e1 e2
    · exact h1.dj (i + 1) 0 y z (by omega) hy hz b e1 e2
    · exact h2.dj (i + 1) 0 y z (by omega) hy hz b e1 e2
    · exact h1.dj (i + 1) (j + 1) y z (by omega) hy hz b e1 e2
  · rintro (_ | i) y hy
    · cases hy; exact h1.nc cb e 0 _ rfl
    · exact h2.nc cb e i y hy
theorem LX.ar {c : Option Nat} {H0 H : AH} {L : List Ix} {p q : Value} {sh dt : List Int} (h : LX c H0 H L) (i j : Nat) (hi : L[i]? = some (.own (.row p sh))) (hj : L[j]? = some (.own (.row q dt))) (l1 : sh.length ≤ 1048576) (l2 : dt.length ≤ 1048576) : AR H p q sh dt := ⟨h.int i hi, h.int j hj, l1, l2⟩
theorem LX.ans {H H' : AH} {L : List Ix} {p q : Value} {c : Int} {sh dt : List Int} {R : (List Int × List Int) × Int} (h : LX none H H' L) (i j : Nat) (hij : i ≠ j) (hi : L[i]? = some (.own (.row p sh))) (hj : L[j]? = some (.own (.row q dt))) (hR : R = ((sh, dt), c)) : Ans1 H H' (.tuple #[.agg #[p, q], .int .i64 c]) R := by
  subst hR
  exact ⟨_, _, rfl, h.give [i, j] (by simp [hij]) [.row p sh, .row q dt] (by simp [hi, hj])⟩
theorem LX.err {H H' : AH} {L : List Ix} {c : Int} {R : (List Int × List Int) × Int} (h : LX none H H' L) (hR : R = (([], []), c)) : Ans1 H H' (.tuple #[.agg #[.slice none 0 0, .slice none 0 0], .int .i64 c]) R :=
  (h.nil0.nil0).ans 0 1 (by decide) rfl rfl hR
theorem rpBytes {P : Program} {H : AH} {t e : TypeId} {v : Value} (h : RpV P H t v) (hu : P.underlying t = some (.slice e)) (he : P.underlying e = some (.int .u8)) (hc : P.cellsOf e = 1) : ∃ a n c, v = .slice a n c ∧ BRow H a n c := by
  obtain ⟨k, vs, h, rfl⟩ := h
  rcases h.slice hu with rfl | ⟨b, n, cs, rfl, h2, h3, h4, k, h5⟩
  · exact ⟨none, 0, 0, by simp [mkV, hu], fun h => by omega⟩
  · rw [hc] at h3 h5
    refine ⟨_, n, 1, by simp [mkV, hu, hc], fun _ => ⟨b, 0, cs, rfl, rfl, h2, fun j hj => ?_⟩⟩
    obtain ⟨m, h6, h7⟩ := (h5 j hj).int he
    have h8 : cs[j]? = some (.int .u8 m) := by
      have := congrArg (fun l : List Value => l[0]?) h6
      simp only [List.getElem?_take_of_lt Nat.zero_lt_one, List.getElem?_drop, Nat.mul_one, Nat.add_zero, List.getElem?_cons_zero] at this
      exact this
    refine ⟨m, by rw [Nat.zero_add]; exact h8, ?_⟩
    have := h7
    simp [Lit.wf] at this
    have e1 : IntKind.u8.min = 0 := rfl
    have e2 : IntKind.u8.max = 255 := rfl
    omega
theorem sameInts_ok {H : AH} {v w : Value} {l m : List Int} (hv : IntRow H v l) (hw : IntRow H w m) (hl : l.length < 9223372036854775807) : CallsA Try.prog 34 #[v, w] H fun r H' => r = .bool (l == m) ∧ H' = H := by
  obtain ⟨a, c, rfl, gv⟩ := hv.op
  obtain ⟨a', c', rfl, gw⟩ := hw.op
  refine w34 ?_
  unfold k34
  simp -implicitDefEqProofs only [kk0, kk1, kk2, kk3, rW_block, ↓two_true, ↓two_false, rW_cond, rO_guard, oS_some, oM_some, mkv, aggAt, Nat.reduceLeDiff, Nat.reduceSub, Nat.reduceMul, cond_true, cond_false, Option.bind_some, List.length_append, List.length_cons, List.length_nil, List.append_assoc, List.cons_append, List.nil_append, List.set_cons_zero, List.set_cons_succ, List.size_toArray, List.all_cons, List.all_nil, List.drop_zero, List.drop_succ_cons, List.take_succ_cons, List.take_zero, List.mem_cons, Prod.mk.injEq, List.not_mem_nil, implies_true, List.getElem?_toArray, List.getElem?_cons_zero, List.getElem?_cons_succ, List.getElem?_nil, Option.getD_some, Option.getD_none, Nat.reduceEqDiff, reduceIte, Nat.reduceAdd, List.map_toArray, List.map_cons, List.map_nil, Bool.false_eq_true, Nat.reduceBEq, Option.map_some, Option.map_none, reduceCtorEq, ix43, ld3, ln43]
  refine two_intro (fun h => ?_) (fun h => ?_)
  · have : (l == m) = false := by
      rw [beq_eq_false_iff_ne]
      rintro rfl
      simp at h
    rw [this]
  · have hlen : l.length = m.length := by simp at h; omega
    refine rW_loop (σ := Nat) (fun i tm H' => tm 0 = .slice a l.length c ∧ tm 1 = .slice a' m.length c' ∧ tm 5 = .int .i64 i ∧ H' = H ∧ i ≤ l.length ∧ ∀ j, j < i → l[j]? = m[j]?) (fun i => l.length - i) 0 ?_ ?_
    · simp -implicitDefEqProofs [kk0, kk1, kk2, kk3, rW_block, ↓two_true, ↓two_false, rW_cond, rO_guard, oS_some, oM_some, mkv, aggAt, Nat.reduceLeDiff, Nat.reduceSub, Nat.reduceMul, cond_true, cond_false, Option.bind_some, List.length_append, List.length_cons, List.length_nil, List.append_assoc, List.cons_append, List.nil_append, List.set_cons_zero, List.set_cons_succ, List.size_toArray, List.all_cons, List.all_nil, List.drop_zero, List.drop_succ_cons, List.take_succ_cons, List.take_zero, List.mem_cons, Prod.mk.injEq, List.not_mem_nil, implies_true, List.getElem?_toArray, List.getElem?_cons_zero, List.getElem?_cons_succ, List.getElem?_nil, Option.getD_some, Option.getD_none, Nat.reduceEqDiff, reduceIte, Nat.reduceAdd, List.map_toArray, List.map_cons, List.map_nil, Bool.false_eq_true, Nat.reduceBEq, Option.map_some, Option.map_none, reduceCtorEq, ix43, ld3, ln43]
    · rintro i tm H' ⟨h0, h1, h5, rfl, hi, hn⟩
      simp -implicitDefEqProofs only [kk0, kk1, kk2, kk3, rW_block, ↓two_true, ↓two_false, rW_cond, rO_guard, oS_some, oM_some, mkv, aggAt, Nat.reduceLeDiff, Nat.reduceSub, Nat.reduceMul, cond_true, cond_false, Option.bind_some, List.length_append, List.length_cons, List.length_nil, List.append_assoc, List.cons_append, List.nil_append, List.set_cons_zero, List.set_cons_succ, List.size_toArray, List.all_cons, List.all_nil, List.drop_zero, List.drop_succ_cons, List.take_succ_cons, List.take_zero, List.mem_cons, Prod.mk.injEq, List.not_mem_nil, implies_true, List.getElem?_toArray, List.getElem?_cons_zero, List.getElem?_cons_succ, List.getElem?_nil, Option.getD_some, Option.getD_none, Nat.reduceEqDiff, reduceIte, Nat.reduceAdd, List.map_toArray, List.map_cons, List.map_nil, Bool.false_eq_true, Nat.reduceBEq, Option.map_some, Option.map_none, reduceCtorEq, ix43, ld3, ln43, h0, h1, h5]
      refine two_intro (fun hc => ?_) (fun hc => ?_)
      · have hc' : i < l.length := by simpa using hc
        have hc2 : i < m.length := by omega
        obtain ⟨b, o, cs, rfl, rfl, hrd, _, hcell⟩ := gv (by omega)
        obtain ⟨b', o', cs', rfl, rfl, hrd', _, hcell'⟩ := gw (by omega)
        simp -implicitDefEqProofs only [kk0, kk1, kk2, kk3, rW_block, ↓two_true, ↓two_false, rW_cond, rO_guard, oS_some, oM_some, mkv, aggAt, Nat.reduceLeDiff, Nat.reduceSub, Nat.reduceMul, cond_true, cond_false, Option.bind_some, List.length_append, List.length_cons, List.length_nil, List.append_assoc, List.cons_append, List.nil_append, List.set_cons_zero, List.set_cons_succ, List.size_toArray, List.all_cons, List.all_nil, List.drop_zero, List.drop_succ_cons, List.take_succ_cons, List.take_zero, List.mem_cons, Prod.mk.injEq, List.not_mem_nil, implies_true, List.getElem?_toArray, List.getElem?_cons_zero, List.getElem?_cons_succ, List.getElem?_nil, Option.getD_some, Option.getD_none, Nat.reduceEqDiff, reduceIte, Nat.reduceAdd, List.map_toArray, List.map_cons, List.map_nil, Bool.false_eq_true, Nat.reduceBEq, Option.map_some, Option.map_none, reduceCtorEq, ix43, ld3, ln43, h0, h1, h5, Int.toNat_natCast, Nat.mul_one, hrd, hrd', hcell i hc', hcell' i hc2, IntWalk.i64_in (↑i + 1) (by omega)]
        refine ⟨⟨by omega, by omega⟩, ⟨by omega, by omega⟩, two_intro (fun h => ?_) (fun h => ?_)⟩
        · have : (l == m) = false := by
            rw [beq_eq_false_iff_ne]
            rintro rfl
            simp at h
          rw [this]
        · refine ⟨i + 1, by omega, by simp, hc', fun j hj => ?_⟩
          rcases Nat.lt_or_ge j i with h1 | h1
          · exact hn j h1
          · have : j = i := by omega
            subst this
            simpa [hc', hc2] using h
      · have hc' : ¬ i < l.length := by simpa using hc
        have : (l == m) = true := by
          rw [beq_iff_eq]
          refine List.ext_getElem? fun j => ?_
          rcases Nat.lt_or_ge j i with h1 | h1
          · exact hn j h1
          · rw [List.getElem?_eq_none (by omega), List.getElem?_eq_none (by omega)]
        rw [this]
theorem sameInts_eq {H : AH} {v w : Value} {l m : List Int} (hv : IntRow H v l) (hw : IntRow H w m) (hl : l.length < 9223372036854775807) {Φ : Value → AH → Prop} : CallsA Try.prog 34 #[v, w] H Φ = Φ (.bool (l == m)) H := (sameInts_ok hv hw hl).eq0

/-- The rows of an array that is right, of rank 1 and above. -/
def rowsR : List Int → List Int → List (List Int × List Int)
  | [], _ => []
  | x :: tl, da => (List.range x.toNat).map fun i => (tl, (da.drop (i * (sizeI tl).toNat)).take (sizeI tl).toNat)
/-- What Rows answers. -/
def rowsA (sa da : List Int) : List (List Int × List Int) := if arrOk sa da then rowsR sa da else []
def rowsV (rs : List (List Int × List Int)) : List CV := rs.flatMap fun r => [.r r.1, .r r.2]
theorem rowsV_len {rs : List (List Int × List Int)} : (rowsV rs).length = rs.length * 2 := by
  induction rs with
  | nil => rfl
  | cons r rs ih => simp only [rowsV, List.flatMap_cons, List.length_append, List.length_cons, List.length_nil] at ih ⊢; omega
theorem rowsV_snoc {rs : List (List Int × List Int)} {r : List Int × List Int} : rowsV (rs ++ [r]) = rowsV rs ++ [.r r.1, .r r.2] := by simp [rowsV]
theorem rowsV_get : ∀ {rs : List (List Int × List Int)} {i : Nat} (h : i < rs.length), (rowsV rs)[i * 2]? = some (.r rs[i].1) ∧ (rowsV rs)[i * 2 + 1]? = some (.r rs[i].2)
  | r :: rs, 0, _ => by simp [rowsV]
  | r :: rs, i + 1, h => by
    have h' : i < rs.length := by simpa using h
    obtain ⟨h1, h2⟩ := rowsV_get h'
    have e : rowsV (r :: rs) = .r r.1 :: .r r.2 :: rowsV rs := rfl
    refine ⟨?_, ?_⟩
    · rw [e, show (i + 1) * 2 = i * 2 + 1 + 1 by omega, List.getElem?_cons_succ, List.getElem?_cons_succ, h1]; rfl
    · rw [e, show (i + 1) * 2 + 1 = i * 2 + 1 + 1 + 1 by omega, List.getElem?_cons_succ, List.getElem?_cons_succ, h2]; rfl
/-- A row of arrays that may be read. -/
def RowsA (H : AH) (v : Value) (rs : List (List Int × List Int)) : Prop :=
  ∃ a c, v = .slice a rs.length c ∧ (0 < rs.length → ∃ b o cs, a = some ⟨b, o, none⟩ ∧ c = 2 ∧ rd H b = some cs ∧
    ∀ i (hi : i < rs.length), ∃ p q, cs[o + i * 2]? = some p ∧ cs[o + i * 2 + 1]? = some q ∧ IntRow H p rs[i].1 ∧ IntRow H q rs[i].2)
theorem RowsA.ext {H H' : AH} {v : Value} {rs : List (List Int × List Int)} (h : RowsA H v rs) (he : ∃ K, H' = H ++ K) : RowsA H' v rs := by
  obtain ⟨a, c, e, g⟩ := h
  refine ⟨a, c, e, fun h0 => ?_⟩
  obtain ⟨b, o, cs, e1, e2, h1, h2⟩ := g h0
  refine ⟨b, o, cs, e1, e2, rd_ext h1 he, fun i hi => ?_⟩
  obtain ⟨p, q, g1, g2, g3, g4⟩ := h2 i hi
  exact ⟨p, q, g1, g2, g3.ext he, g4.ext he⟩
theorem FRow.rows {H : AH} {v : Value} {n : Nat} {xs : List Value} {rs : List (List Int × List Int)} (h : FRow H v [.r, .r] n xs) (hv : cvs H xs = rowsV rs) : RowsA H v rs ∧ n = rs.length := by
  have hn : n = rs.length := by
    have := congrArg List.length hv
    have hl := h.len
    simp only [cvs, List.length_map, rowsV_len, List.length_cons, List.length_nil] at this hl
    omega
  subst hn
  obtain ⟨a, c, rfl, g⟩ := h.opn 2 rfl
  refine ⟨⟨a, c, rfl, fun h0 => ?_⟩, rfl⟩
  obtain ⟨b, o, cs, rfl, rfl, h1, h2, h3⟩ := g h0
  refine ⟨b, o, cs, rfl, rfl, h1, fun i hi => ?_⟩
  obtain ⟨h4, h5⟩ := h3 i hi
  obtain ⟨p, _, e, kp, q, _, rfl, kq, rfl⟩ := h.elemn 2 rfl hi
  rw [e] at h5
  obtain ⟨g1, g2⟩ := rowsV_get hi
  have e0 : (elm 2 xs i)[0]? = some p := by rw [e]; rfl
  have e1 : (elm 2 xs i)[1]? = some q := by rw [e]; rfl
  rw [elm_get (by omega)] at e0 e1
  rw [← hv] at g1 g2
  simp only [cvs, List.getElem?_map] at g1 g2
  rw [Nat.add_zero] at e0
  rw [e0, Option.map_some, cv_row kp.1] at g1
  rw [e1, Option.map_some, cv_row kq.1] at g2
  injection g1 with g1; injection g1 with g1
  injection g2 with g2; injection g2 with g2
  refine ⟨p, q, h5 0 p rfl, h5 1 q rfl, ?_, ?_⟩
  · rw [← g1]; exact kp.1
  · rw [← g2]; exact kq.1
/-- A part of a row. -/
theorem IntRow.sl {P : Program} {t e : TypeId} {H : AH} {a : Option Addr} {n c : Nat} {l : List Int} (ht : P.underlying t = some (.slice e)) (hs : szOf P e = some 1) (h : IntRow H (.slice a n c) l) {lo hi : Option Value} {x y : Nat}
    (hx : optInt 0 lo = some (x : Int)) (hy : optInt n hi = some (y : Int)) (hxy : x ≤ y) (hyn : y ≤ l.length) :
    ∃ a' c', aSlice P t (.slice a n c) lo hi = some (.slice a' (y - x) c') ∧ IntRow H (.slice a' (y - x) c') ((l.drop x).take (y - x)) ∧ (blkOf (.slice a' (y - x) c') = none ∨ blkOf (.slice a' (y - x) c') = blkOf (.slice a n c)) := by
  rcases h with ⟨e1, rfl⟩ | ⟨b, o, cs, e1, h2, h3, h4⟩
  · injection e1 with e1 e2 e3
    subst e1; subst e2; subst e3
    have : y = 0 := by simpa using hyn
    subst this
    obtain rfl : x = 0 := by omega
    refine ⟨none, 0, ?_, .inl ⟨rfl, rfl⟩, .inl rfl⟩
    rw [sln_eq ht hs, hx, hy]
    simp
  · injection e1 with e1 e2 e3
    subst e1; subst e2; subst e3
    have hlen : ((l.drop x).take (y - x)).length = y - x := by simp; omega
    refine ⟨some ⟨b, o + x, none⟩, 1, ?_, .inr ⟨b, o + x, cs, by rw [hlen], h2, by rw [hlen]; omega, ?_⟩, .inr rfl⟩
    · rw [slc_eq ht hs, hx, hy, slc_some, if_pos (by omega)]
      simp
    · rw [hlen]
      have : ints ((l.drop x).take (y - x)) = ((ints l).drop x).take (y - x) := by simp [ints]
      rw [this, ← h4, List.drop_take, List.take_take, List.drop_drop]
      rw [Nat.min_eq_left (by omega)]
theorem prodI_pos_le {x p : Int} (hx : 1 ≤ x) (hp : 0 ≤ p) : p ≤ x * p := by
  have := Int.mul_le_mul_of_nonneg_right hx hp
  omega
theorem prodI_nonneg : ∀ {l : List Int}, (l.all fun x => inB x 0 300) = true → 0 ≤ prodI l
  | [], _ => by decide
  | x :: l, h => by
    simp only [List.all_cons, Bool.and_eq_true] at h
    rw [prodI_cons]
    have h1 : 0 ≤ x := by have := h.1; simp [inB] at this; omega
    exact Int.mul_nonneg h1 (prodI_nonneg h.2)
theorem sizeI_ok {l : List Int} (h : 0 ≤ sizeI l) : l.length ≤ 3 ∧ (l.all fun x => inB x 0 300) = true ∧ sizeI l = prodI l := by
  unfold sizeI at h ⊢
  split at h
  · omega
  · rename_i h1
    split at h
    · rename_i h2
      split at h
      · omega
      · rename_i h3
        rw [if_neg h1, if_pos h2, if_neg h3]
        exact ⟨by omega, h2, rfl⟩
    · omega
theorem sizeI_of {l : List Int} (h1 : l.length ≤ 3) (h2 : (l.all fun x => inB x 0 300) = true) (h3 : prodI l ≤ 300) : sizeI l = prodI l := by
  unfold sizeI
  rw [if_neg (by omega), if_pos h2, if_neg (by omega)]
/-- The sizes of an array's rows. -/
theorem arrOk_rows {x : Int} {tl da : List Int} (h : arrOk (x :: tl) da = true) : ∃ n : Nat, x = n ∧ n ≤ 300 ∧ (0 < n → ∃ m : Nat, sizeI tl = m ∧ m ≤ 300 ∧ da.length = n * m) := by
  unfold arrOk at h
  simp only [Bool.and_eq_true, beq_iff_eq] at h
  obtain ⟨h1, h2, h3⟩ := sizeI_ok (l := x :: tl) (by omega)
  simp only [List.all_cons, Bool.and_eq_true, List.length_cons] at h1 h2
  have hx : 0 ≤ x ∧ x ≤ 300 := by have := h2.1; simp [inB] at this; omega
  refine ⟨x.toNat, by omega, by omega, fun h0 => ?_⟩
  have hp := prodI_nonneg h2.2
  rw [prodI_cons] at h3
  have hle := prodI_pos_le (x := x) (by omega) hp
  have hsz := sizeI_le (l := x :: tl)
  have ht := sizeI_of (l := tl) (by omega) h2.2 (by omega)
  refine ⟨(prodI tl).toNat, by omega, by omega, ?_⟩
  have e1 : ((x.toNat : Int)) = x := by omega
  have e2 : (((prodI tl).toNat : Int)) = prodI tl := by omega
  have : (da.length : Int) = ((x.toNat * (prodI tl).toNat : Nat) : Int) := by
    rw [Int.natCast_mul, e1, e2, h.1, h3]
  omega

/-- The place of a number in a row that may be read, and the number. -/
theorem ixI {H : AH} {a : Option Addr} {n c : Nat} {l : List Int} (h : IntRow H (.slice a n c) l) {i : Nat} (hi : i < l.length) : ∃ b o cs, aIndexAddr Try.prog 43 (.slice a n c) (.int .i64 i) = some (.pointer (some ⟨b, o + i, none⟩)) ∧ rd H b = some cs ∧ cs[o + i]? = some (.int .i64 l[i]) := by
  obtain ⟨e, b, o, cs, rfl, rfl, h1, h2⟩ := h.cells hi
  subst e
  refine ⟨b, o, cs, ?_, h1, h2⟩
  rw [ix43, if_pos (by omega)]
  simp
theorem ixI0 {H : AH} {a : Option Addr} {n c : Nat} {l : List Int} {x : Int} (h : IntRow H (.slice a n c) l) (hx : l[0]? = some x) : ∃ b o cs, aIndexAddr Try.prog 43 (.slice a n c) (.int .i64 0) = some (.pointer (some ⟨b, o, none⟩)) ∧ rd H b = some cs ∧ cs[o]? = some (.int .i64 x) := by
  obtain ⟨h0, rfl⟩ := List.getElem?_eq_some_iff.1 hx
  obtain ⟨b, o, cs, h1, h2, h3⟩ := ixI h h0
  exact ⟨b, o, cs, h1, h2, h3⟩

theorem rowsR_len {x : Int} {tl da : List Int} {n : Nat} (h : x = n) : (rowsR (x :: tl) da).length = n := by simp [rowsR, h]
theorem rowsR_get {x : Int} {tl da : List Int} {n m i : Nat} (h : x = n) (hm : sizeI tl = m) (hi : i < n) : (rowsR (x :: tl) da)[i]? = some (tl, (da.drop (i * m)).take m) := by
  simp [rowsR, h, hm, hi]
theorem New.back {H0 H1 H : AH} {v : Value} {ks : List CK} {n : Nat} {ys : List Value} (h : New H1 H v ks n ys) (hl : H0.length ≤ H1.length) : New H0 H v ks n ys := ⟨h.ot, fun b hb => Nat.le_trans hl (h.fr b hb)⟩
/-- One array more behind a row of arrays. -/
theorem take_snoc {rs : List (List Int × List Int)} {i : Nat} {r : List Int × List Int} (h : rs[i]? = some r) : rowsV (rs.take (i + 1)) = rowsV (rs.take i) ++ [.r r.1, .r r.2] := by
  obtain ⟨h1, h2⟩ := List.getElem?_eq_some_iff.1 h
  rw [List.take_succ_eq_append_getElem h1, h2, rowsV_snoc]

theorem implRows_ok {H : AH} {pa qa : Value} {sa da : List Int} (a : AR H pa qa sa da) : CallsA Try.prog 46 #[.agg #[pa, qa]] H fun r H' => (∃ ys, New H H' r [.r, .r] (rowsA sa da).length ys ∧ cvs H' ys = rowsV (rowsA sa da)) ∧ ∃ K, H' = H ++ K := by
  have al := a.lim
  obtain ⟨a1, c1, a2, c2, rfl, rfl⟩ := a.o1
  refine w46 ?_
  unfold k46
  have q := (LD.nil (H := H)).box [.slice a1 sa.length c1, .slice a2 da.length c2]
  simp -implicitDefEqProofs only [kk0, kk1, kk2, kk3, rW_block, ↓two_true, ↓two_false, rW_cond, rO_guard, oS_some, oM_some, mkv, aggAt, Nat.reduceLeDiff, Nat.reduceSub, Nat.reduceMul, cond_true, cond_false, Option.bind_some, List.length_append, List.length_cons, List.length_nil, List.append_assoc, List.cons_append, List.nil_append, List.set_cons_zero, List.set_cons_succ, List.size_toArray, List.all_cons, List.all_nil, List.drop_zero, List.drop_succ_cons, List.take_succ_cons, List.take_zero, List.mem_cons, Prod.mk.injEq, List.not_mem_nil, implies_true, List.getElem?_toArray, List.getElem?_cons_zero, List.getElem?_cons_succ, List.getElem?_nil, Option.getD_some, Option.getD_none, Nat.reduceEqDiff, reduceIte, Nat.reduceAdd, List.map_toArray, List.map_cons, List.map_nil, Bool.false_eq_true, Nat.reduceBEq, Option.map_some, Option.map_none, reduceCtorEq, ap24_24, bd45, bs24_1, fa45_0, fa45_1, ix43, ld3, ld43, ld45, ln43, sn43, sl43] at q ⊢
  unfold rowsA
  refine (implOk_ar (a.ext q.ext)).mono ?_
  rintro _ H1 ⟨rfl, he⟩
  have q := q.extd he
  clear he
  simp -implicitDefEqProofs only [kk0, kk1, kk2, kk3, rW_block, ↓two_true, ↓two_false, rW_cond, rO_guard, oS_some, oM_some, mkv, aggAt, Nat.reduceLeDiff, Nat.reduceSub, Nat.reduceMul, cond_true, cond_false, Option.bind_some, List.length_append, List.length_cons, List.length_nil, List.append_assoc, List.cons_append, List.nil_append, List.set_cons_zero, List.set_cons_succ, List.size_toArray, List.all_cons, List.all_nil, List.drop_zero, List.drop_succ_cons, List.take_succ_cons, List.take_zero, List.mem_cons, Prod.mk.injEq, List.not_mem_nil, implies_true, List.getElem?_toArray, List.getElem?_cons_zero, List.getElem?_cons_succ, List.getElem?_nil, Option.getD_some, Option.getD_none, Nat.reduceEqDiff, reduceIte, Nat.reduceAdd, List.map_toArray, List.map_cons, List.map_nil, Bool.false_eq_true, Nat.reduceBEq, Option.map_some, Option.map_none, reduceCtorEq, ap24_24, bd45, bs24_1, fa45_0, fa45_1, ix43, ld3, ld43, ld45, ln43, sn43, sl43, (q.rd 0 rfl).1]
  have nil0 : ∀ rs : List (List Int × List Int), rs = [] → (∃ ys, New H H1 (.slice none 0 0) [.r, .r] rs.length ys ∧ cvs H1 ys = rowsV rs) ∧ ∃ K, H1 = H ++ K := fun rs e => by
    subst e; exact ⟨⟨[], New.nil, rfl⟩, q.ext⟩
  refine two_intro (fun u => ?_) (fun u => two_intro (fun u2 => ?_) (fun u2 => ?_))
  · exact nil0 _ (by rw [show arrOk sa da = false by simpa using u]; rfl)
  · refine nil0 _ ?_
    have : sa = [] := by simpa using u2
    rw [this]; simp [rowsR]
  have ok : arrOk sa da = true := by simpa using u
  rw [ok, if_pos rfl]
  have hne : sa ≠ [] := by rintro rfl; simp at u2
  obtain ⟨x, tl, hsa⟩ := List.exists_cons_of_ne_nil hne
  have ok' := ok
  rw [hsa] at ok'
  obtain ⟨n, rfl, hn3, hm0⟩ := arrOk_rows ok'
  have ax := (a.ext q.ext).os
  obtain ⟨t1, y1, ev1, hv1, -⟩ := IntRow.sl (P := Try.prog) (t := 43) (e := 3) (lo := some (.int .i64 1)) (hi := none) (x := 1) (y := sa.length) Try.underlying43 (by kernel_rfl) ax rfl rfl (by rw [hsa]; simp) (Nat.le_refl _)
  have e1 : (sa.drop 1).take (sa.length - 1) = tl := by rw [hsa]; simp
  have e2 : sa.length - 1 = tl.length := by rw [hsa]; simp
  have tl4 : tl.length < 4611686018427387904 := by omega
  rw [e1, e2] at hv1
  rw [e2] at ev1
  have es := fun Φ => (implSizeOf_ok hv1 tl4).eq0 (Φ := Φ)
  have hrl : (rowsR sa da).length = n := by rw [hsa]; exact rowsR_len rfl
  simp -implicitDefEqProofs only [kk0, kk1, kk2, kk3, rW_block, ↓two_true, ↓two_false, rW_cond, rO_guard, oS_some, oM_some, mkv, aggAt, Nat.reduceLeDiff, Nat.reduceSub, Nat.reduceMul, cond_true, cond_false, Option.bind_some, List.length_append, List.length_cons, List.length_nil, List.append_assoc, List.cons_append, List.nil_append, List.set_cons_zero, List.set_cons_succ, List.size_toArray, List.all_cons, List.all_nil, List.drop_zero, List.drop_succ_cons, List.take_succ_cons, List.take_zero, List.mem_cons, Prod.mk.injEq, List.not_mem_nil, implies_true, List.getElem?_toArray, List.getElem?_cons_zero, List.getElem?_cons_succ, List.getElem?_nil, Option.getD_some, Option.getD_none, Nat.reduceEqDiff, reduceIte, Nat.reduceAdd, List.map_toArray, List.map_cons, List.map_nil, Bool.false_eq_true, Nat.reduceBEq, Option.map_some, Option.map_none, reduceCtorEq, ap24_24, bd45, bs24_1, fa45_0, fa45_1, ix43, ld3, ld43, ld45, ln43, sn43, sl43, (q.rd 0 rfl).1, ev1, es]
  refine rW_loop (σ := Nat × Option Addr × Nat × List Value) (fun (i, a', c', ys) tm H' => tm 1 = .pointer (some ⟨H.length, 0, none⟩) ∧ tm 3 = .int .i64 (sizeI tl) ∧ tm 4 = .slice a' i c' ∧ tm 5 = .int .i64 i ∧ i ≤ n ∧
    New H1 H' (.slice a' i c') [.r, .r] i ys ∧ cvs H' ys = rowsV ((rowsR sa da).take i) ∧ ∃ K, H' = H1 ++ K) (fun (i, _) => n - i) (0, none, 0, []) ?_ ?_
  · exact ⟨rfl, rfl, rfl, rfl, Nat.zero_le _, New.nil, rfl, ext_refl⟩
  · rintro ⟨i, a', c', ys⟩ tm H2 ⟨h1, h3, h4, h5, hi, hnw, hcv, he⟩
    have g0 := rd_ext (q.rd 0 rfl).1 he
    have he0 := ext_trans q.ext he
    have a2' := a.ext he0
    obtain ⟨b9, o9, cs9, ei9, hrd, hc0⟩ := ixI0 a2'.os (x := (n : Int)) (by rw [hsa]; rfl)
    simp -implicitDefEqProofs only [kk0, kk1, kk2, kk3, rW_block, ↓two_true, ↓two_false, rW_cond, rO_guard, oS_some, oM_some, mkv, aggAt, Nat.reduceLeDiff, Nat.reduceSub, Nat.reduceMul, cond_true, cond_false, Option.bind_some, List.length_append, List.length_cons, List.length_nil, List.append_assoc, List.cons_append, List.nil_append, List.set_cons_zero, List.set_cons_succ, List.size_toArray, List.all_cons, List.all_nil, List.drop_zero, List.drop_succ_cons, List.take_succ_cons, List.take_zero, List.mem_cons, Prod.mk.injEq, List.not_mem_nil, implies_true, List.getElem?_toArray, List.getElem?_cons_zero, List.getElem?_cons_succ, List.getElem?_nil, Option.getD_some, Option.getD_none, Nat.reduceEqDiff, reduceIte, Nat.reduceAdd, List.map_toArray, List.map_cons, List.map_nil, Bool.false_eq_true, Nat.reduceBEq, Option.map_some, Option.map_none, reduceCtorEq, ap24_24, bd45, bs24_1, fa45_0, fa45_1, ix43, ld3, ld43, ld45, ln43, sn43, sl43, h1, h3, h4, h5, g0, ei9, hrd, hc0]
    refine two_intro (fun hc => ?_) (fun hc => ?_)
    · have hlt : i < n := by simpa using hc
      obtain ⟨m, hm, hm3, hdl⟩ := hm0 (by omega)
      have hb1 : (i + 1) * m ≤ n * m := Nat.mul_le_mul_right m hlt
      have hb2 : (i + 1) * m = i * m + m := by rw [Nat.add_mul, Nat.one_mul]
      have hdl3 := arrOk_len ok
      have w1 : IntKind.i64.wrap ((i : Int) * (m : Int)) = ((i * m : Nat) : Int) := by rw [← Int.natCast_mul, IntWalk.i64_in _ (by omega)]
      have w2 : IntKind.i64.wrap ((i : Int) + 1) = ((i + 1 : Nat) : Int) := by rw [IntWalk.i64_in _ (by omega)]; rfl
      have w3 : IntKind.i64.wrap (((i + 1 : Nat) : Int) * (m : Int)) = (((i + 1) * m : Nat) : Int) := by rw [← Int.natCast_mul, IntWalk.i64_in _ (by omega)]
      obtain ⟨t2, y2, ev2, hv2, -⟩ := IntRow.sl (P := Try.prog) (t := 43) (e := 3) (lo := some (.int .i64 ((i * m : Nat) : Int))) (hi := some (.int .i64 (((i + 1) * m : Nat) : Int))) (x := i * m) (y := (i + 1) * m) Try.underlying43 (by kernel_rfl) a2'.od rfl rfl (by omega) (by omega)
      have e3 : (i + 1) * m - i * m = m := by omega
      rw [e3] at ev2 hv2
      have hv1' := hv1.ext he
      have hdm : ((da.drop (i * m)).take m).length = m := by simp; omega
      obtain ⟨D, hD⟩ : ∃ D, (da.drop (i * m)).take m = D := ⟨_, rfl⟩
      have hlr : (rowsR sa da)[i]? = some (tl, (da.drop (i * m)).take m) := by rw [hsa]; exact rowsR_get rfl hm hlt
      rw [hD] at hdm hv2 hlr
      simp -implicitDefEqProofs only [kk0, kk1, kk2, kk3, rW_block, ↓two_true, ↓two_false, rW_cond, rO_guard, oS_some, oM_some, mkv, aggAt, Nat.reduceLeDiff, Nat.reduceSub, Nat.reduceMul, cond_true, cond_false, Option.bind_some, List.length_append, List.length_cons, List.length_nil, List.append_assoc, List.cons_append, List.nil_append, List.set_cons_zero, List.set_cons_succ, List.size_toArray, List.all_cons, List.all_nil, List.drop_zero, List.drop_succ_cons, List.take_succ_cons, List.take_zero, List.mem_cons, Prod.mk.injEq, List.not_mem_nil, implies_true, List.getElem?_toArray, List.getElem?_cons_zero, List.getElem?_cons_succ, List.getElem?_nil, Option.getD_some, Option.getD_none, Nat.reduceEqDiff, reduceIte, Nat.reduceAdd, List.map_toArray, List.map_cons, List.map_nil, Bool.false_eq_true, Nat.reduceBEq, Option.map_some, Option.map_none, reduceCtorEq, ap24_24, bd45, bs24_1, fa45_0, fa45_1, ix43, ld3, ld43, ld45, ln43, sn43, sl43, h1, h3, h4, h5, g0, ev1, hm, w1, w2, w3, ev2]
      have ac : AR H2 (.slice t1 tl.length y1) (.slice t2 m y2) tl D := ⟨hv1', hv2, by have := a.l1; omega, by omega⟩
      refine (copyA_ok ac).mono ?_
      rintro _ H3 ⟨p', q', rfl, g⟩
      simp only at g
      obtain ⟨a3, c3, e5⟩ := (g.own 0 rfl).isSlice
      obtain ⟨a4, c4, e6⟩ := (g.own 1 rfl).isSlice
      have r1 := (g.own 0 rfl).kok (by have := a.l1; omega)
      have r2 := (g.own 1 rfl).kok (by omega)
      have f1 := g.fr 0 _ rfl
      have f2 := g.fr 1 _ rfl
      have dj := g.dj 0 1 _ _ (by decide) rfl rfl
      simp only [It.bs] at f1 f2 dj
      subst e5; subst e6
      simp -implicitDefEqProofs only [kk0, kk1, kk2, kk3, rW_block, ↓two_true, ↓two_false, rW_cond, rO_guard, oS_some, oM_some, mkv, aggAt, Nat.reduceLeDiff, Nat.reduceSub, Nat.reduceMul, cond_true, cond_false, Option.bind_some, List.length_append, List.length_cons, List.length_nil, List.append_assoc, List.cons_append, List.nil_append, List.set_cons_zero, List.set_cons_succ, List.size_toArray, List.all_cons, List.all_nil, List.drop_zero, List.drop_succ_cons, List.take_succ_cons, List.take_zero, List.mem_cons, Prod.mk.injEq, List.not_mem_nil, implies_true, List.getElem?_toArray, List.getElem?_cons_zero, List.getElem?_cons_succ, List.getElem?_nil, Option.getD_some, Option.getD_none, Nat.reduceEqDiff, reduceIte, Nat.reduceAdd, List.map_toArray, List.map_cons, List.map_nil, Bool.false_eq_true, Nat.reduceBEq, Option.map_some, Option.map_none, reduceCtorEq, ap24_24, bd45, bs24_1, fa45_0, fa45_1, ix43, ld3, ld43, ld45, ln43, sn43, sl43, h1, h3, h4, h5]
      refine oA_newn 2 rfl hnw g.ext ⟨_, _, rfl, r1.1, _, _, rfl, r2.1, rfl⟩ ?_ ?_ (pw_get (by simp; exact dj)) (ext_len he) (by omega) fun b' H4 f3 x3 v3 => ?_
      · simp; exact ⟨r1.2.1, r2.2.1⟩
      · simp only [List.mem_cons, List.not_mem_nil, or_false]
        rintro y (rfl | rfl) b hb
        · exact f1 b hb
        · exact f2 b hb
      · have he4 := x3.ext (H0 := H1) (ext_trans he g.ext) hnw.blk
        · simp -implicitDefEqProofs only [kk0, kk1, kk2, kk3, rW_block, ↓two_true, ↓two_false, rW_cond, rO_guard, oS_some, oM_some, mkv, aggAt, Nat.reduceLeDiff, Nat.reduceSub, Nat.reduceMul, cond_true, cond_false, Option.bind_some, List.length_append, List.length_cons, List.length_nil, List.append_assoc, List.cons_append, List.nil_append, List.set_cons_zero, List.set_cons_succ, List.size_toArray, List.all_cons, List.all_nil, List.drop_zero, List.drop_succ_cons, List.take_succ_cons, List.take_zero, List.mem_cons, Prod.mk.injEq, List.not_mem_nil, implies_true, List.getElem?_toArray, List.getElem?_cons_zero, List.getElem?_cons_succ, List.getElem?_nil, Option.getD_some, Option.getD_none, Nat.reduceEqDiff, reduceIte, Nat.reduceAdd, List.map_toArray, List.map_cons, List.map_nil, Bool.false_eq_true, Nat.reduceBEq, Option.map_some, Option.map_none, reduceCtorEq, ap24_24, bd45, bs24_1, fa45_0, fa45_1, ix43, ld3, ld43, ld45, ln43, sn43, sl43, h1, h3, h4, h5, w2]
          refine ⟨(i + 1, _, _, _), by simp only; omega, by rw [hm], rfl, rfl, hlt, f3, ?_, he4⟩
          rw [v3, hcv, take_snoc hlr]
          simp only [List.map_cons, List.map_nil, r1.2.2, r2.2.2]
    · have hil : i = n := Nat.le_antisymm hi (Nat.not_lt.1 (by simpa using hc))
      subst hil
      refine ⟨⟨ys, ?_, ?_⟩, he0⟩
      · rw [hrl]; exact hnw.back (ext_len q.ext)
      · rw [hcv, List.take_of_length_le (by omega)]

theorem l3Rows_ok {H : AH} {pa qa : Value} {sa da : List Int} (a : AR H pa qa sa da) (ok : arrOk sa da = true) (hne : sa ≠ []) : CallsA Try.prog 115 #[.agg #[pa, qa]] H fun r H' => (∃ ys, New H H' r [.r, .r] (rowsR sa da).length ys ∧ cvs H' ys = rowsV (rowsR sa da)) ∧ ∃ K, H' = H ++ K := by
  have al := a.lim
  obtain ⟨a1, c1, a2, c2, rfl, rfl⟩ := a.o1
  refine w115 ?_
  unfold k115
  have q := (LD.nil (H := H)).box [.slice a1 sa.length c1, .slice a2 da.length c2]
  have hHl : (H ++ [⟨[.slice a1 sa.length c1, .slice a2 da.length c2], .own⟩] : AH).length = H.length + 1 := by simp
  have hap : (H ++ [⟨[.slice a1 sa.length c1, .slice a2 da.length c2], .own⟩, ⟨[], .own⟩] : AH) = (H ++ [⟨[.slice a1 sa.length c1, .slice a2 da.length c2], .own⟩]) ++ [⟨[], .own⟩] := by simp
  simp -implicitDefEqProofs only [kk0, kk1, kk2, kk3, rW_block, ↓two_true, ↓two_false, rW_cond, rO_guard, oS_some, oM_some, mkv, aggAt, Nat.reduceLeDiff, Nat.reduceSub, Nat.reduceMul, cond_true, cond_false, Option.bind_some, List.length_append, List.length_cons, List.length_nil, List.append_assoc, List.cons_append, List.nil_append, List.set_cons_zero, List.set_cons_succ, List.size_toArray, List.all_cons, List.all_nil, List.drop_zero, List.drop_succ_cons, List.take_succ_cons, List.take_zero, List.mem_cons, Prod.mk.injEq, List.not_mem_nil, implies_true, List.getElem?_toArray, List.getElem?_cons_zero, List.getElem?_cons_succ, List.getElem?_nil, Option.getD_some, Option.getD_none, Nat.reduceEqDiff, reduceIte, Nat.reduceAdd, List.map_toArray, List.map_cons, List.map_nil, Bool.false_eq_true, Nat.reduceBEq, Option.map_some, Option.map_none, reduceCtorEq, ap24_24, ap43_43, bd45, bs24_0, bs24_1, bs43_0, fa45_0, fa45_1, ix43, ld3, ld43, sn43, sl43]
  rw [hap]
  generalize (H ++ [⟨[.slice a1 sa.length c1, .slice a2 da.length c2], .own⟩] : AH) = Hb at *
  have hq := q.ext
  have b1 := (q.rd 0 rfl).1
  have hbn : (Hb ++ [⟨[], .own⟩] : AH)[H.length + 1]? = some ⟨[], .own⟩ := by rw [← hHl, gt0]; rfl
  obtain ⟨x, tl, hsa⟩ := List.exists_cons_of_ne_nil hne
  have ok' := ok
  rw [hsa] at ok'
  obtain ⟨n, rfl, hn3, hm0⟩ := arrOk_rows ok'
  have ax := (a.ext (ext_trans hq ⟨[⟨[], .own⟩], rfl⟩)).os
  obtain ⟨t1, y1, ev1, hv1, -⟩ := IntRow.sl (P := Try.prog) (t := 43) (e := 3) (lo := some (.int .i64 1)) (hi := none) (x := 1) (y := sa.length) Try.underlying43 (by kernel_rfl) ax rfl rfl (by rw [hsa]; simp) (Nat.le_refl _)
  have e1 : (sa.drop 1).take (sa.length - 1) = tl := by rw [hsa]; simp
  have e2 : sa.length - 1 = tl.length := by rw [hsa]; simp
  have tl4 : tl.length < 4611686018427387904 := by omega
  rw [e1, e2] at hv1
  rw [e2] at ev1
  have es := fun Φ => (specSizeOf_ok hv1 tl4).eq0 (Φ := Φ)
  have hrl : (rowsR sa da).length = n := by rw [hsa]; exact rowsR_len rfl
  have hnw0 : New Hb (Hb ++ [⟨[], .own⟩]) (.slice (some ⟨H.length + 1, 0, none⟩) 0 2) [.r, .r] 0 [] := New.at0n (ks := [.r, .r]) rfl hbn (by omega)
  have b2 := fun L => rd_ext (H' := Hb ++ L) b1 ⟨L, rfl⟩
  simp -implicitDefEqProofs only [kk0, kk1, kk2, kk3, rW_block, ↓two_true, ↓two_false, rW_cond, rO_guard, oS_some, oM_some, mkv, aggAt, Nat.reduceLeDiff, Nat.reduceSub, Nat.reduceMul, cond_true, cond_false, Option.bind_some, List.length_append, List.length_cons, List.length_nil, List.append_assoc, List.cons_append, List.nil_append, List.set_cons_zero, List.set_cons_succ, List.size_toArray, List.all_cons, List.all_nil, List.drop_zero, List.drop_succ_cons, List.take_succ_cons, List.take_zero, List.mem_cons, Prod.mk.injEq, List.not_mem_nil, implies_true, List.getElem?_toArray, List.getElem?_cons_zero, List.getElem?_cons_succ, List.getElem?_nil, Option.getD_some, Option.getD_none, Nat.reduceEqDiff, reduceIte, Nat.reduceAdd, List.map_toArray, List.map_cons, List.map_nil, Bool.false_eq_true, Nat.reduceBEq, Option.map_some, Option.map_none, reduceCtorEq, ap24_24, ap43_43, bd45, bs24_0, bs24_1, bs43_0, fa45_0, fa45_1, ix43, ld3, ld43, sn43, sl43, b2, ev1, es]
  refine rW_loop (σ := Nat × Option Addr × Nat × List Value) (fun (i, a', c', ys) tm H' => tm 1 = .pointer (some ⟨H.length, 0, none⟩) ∧ tm 4 = .int .i64 (sizeI tl) ∧ tm 3 = .slice a' i c' ∧ tm 5 = .int .i64 i ∧ i ≤ n ∧
    New Hb H' (.slice a' i c') [.r, .r] i ys ∧ cvs H' ys = rowsV ((rowsR sa da).take i) ∧ ∃ K, H' = Hb ++ K) (fun (i, _) => n - i) (0, some ⟨H.length + 1, 0, none⟩, 2, []) ?_ ?_
  · exact ⟨rfl, rfl, rfl, rfl, Nat.zero_le _, hnw0, rfl, ⟨_, rfl⟩⟩
  · rintro ⟨i, a', c', ys⟩ tm H2 ⟨h1, h4, h3, h5, hi, hnw, hcv, he⟩
    have he0 := ext_trans hq he
    have a2' := a.ext he0
    have g0 := rd_ext b1 he
    obtain ⟨b9, o9, cs9, ei9, hrd, hc0⟩ := ixI0 a2'.os (x := (n : Int)) (by rw [hsa]; rfl)
    simp -implicitDefEqProofs only [kk0, kk1, kk2, kk3, rW_block, ↓two_true, ↓two_false, rW_cond, rO_guard, oS_some, oM_some, mkv, aggAt, Nat.reduceLeDiff, Nat.reduceSub, Nat.reduceMul, cond_true, cond_false, Option.bind_some, List.length_append, List.length_cons, List.length_nil, List.append_assoc, List.cons_append, List.nil_append, List.set_cons_zero, List.set_cons_succ, List.size_toArray, List.all_cons, List.all_nil, List.drop_zero, List.drop_succ_cons, List.take_succ_cons, List.take_zero, List.mem_cons, Prod.mk.injEq, List.not_mem_nil, implies_true, List.getElem?_toArray, List.getElem?_cons_zero, List.getElem?_cons_succ, List.getElem?_nil, Option.getD_some, Option.getD_none, Nat.reduceEqDiff, reduceIte, Nat.reduceAdd, List.map_toArray, List.map_cons, List.map_nil, Bool.false_eq_true, Nat.reduceBEq, Option.map_some, Option.map_none, reduceCtorEq, ap24_24, ap43_43, bd45, bs24_0, bs24_1, bs43_0, fa45_0, fa45_1, ix43, ld3, ld43, sn43, sl43, h1, h3, h4, h5, g0, ei9, hrd, hc0]
    refine two_intro (fun hc => ?_) (fun hc => ?_)
    · have hlt : i < n := by simpa using hc
      obtain ⟨m, hm, hm3, hdl⟩ := hm0 (by omega)
      have hb1 : (i + 1) * m ≤ n * m := Nat.mul_le_mul_right m hlt
      have hb2 : (i + 1) * m = i * m + m := by rw [Nat.add_mul, Nat.one_mul]
      have hdl3 := arrOk_len ok
      have w1 : IntKind.i64.wrap ((i : Int) * (m : Int)) = ((i * m : Nat) : Int) := by rw [← Int.natCast_mul, IntWalk.i64_in _ (by omega)]
      have w2 : IntKind.i64.wrap ((i : Int) + 1) = ((i + 1 : Nat) : Int) := by rw [IntWalk.i64_in _ (by omega)]; rfl
      have w3 : IntKind.i64.wrap (((i * m : Nat) : Int) + (m : Int)) = ((i * m + m : Nat) : Int) := by rw [← Int.natCast_add, IntWalk.i64_in _ (by omega)]
      obtain ⟨t2, y2, ev2, hv2, -⟩ := IntRow.sl (P := Try.prog) (t := 43) (e := 3) (lo := some (.int .i64 ((i * m : Nat) : Int))) (hi := some (.int .i64 ((i * m + m : Nat) : Int))) (x := i * m) (y := i * m + m) Try.underlying43 (by kernel_rfl) a2'.od rfl rfl (by omega) (by omega)
      have e3 : i * m + m - i * m = m := by omega
      rw [e3] at ev2 hv2
      have hv1' : IntRow H2 (.slice t1 tl.length y1) tl := by
        obtain ⟨t1', y1', ev1', hv1', -⟩ := IntRow.sl (P := Try.prog) (t := 43) (e := 3) (lo := some (.int .i64 1)) (hi := none) (x := 1) (y := sa.length) Try.underlying43 (by kernel_rfl) a2'.os rfl rfl (by rw [hsa]; simp) (Nat.le_refl _)
        rw [e1, e2] at hv1'
        rw [e2, ev1] at ev1'
        injection ev1' with e; injection e with e1 _ e3
        rw [e1, e3]; exact hv1'
      have hdm : ((da.drop (i * m)).take m).length = m := by simp; omega
      obtain ⟨D, hD⟩ : ∃ D, (da.drop (i * m)).take m = D := ⟨_, rfl⟩
      have hlr : (rowsR sa da)[i]? = some (tl, (da.drop (i * m)).take m) := by rw [hsa]; exact rowsR_get rfl hm hlt
      rw [hD] at hdm hv2 hlr
      have g := (LD.nil (H := H2)).lit (cs := []) (n := 0) [] rfl rfl
      have gb := fun L => rd_ext (H' := H2 ++ L) g0 ⟨_, rfl⟩
      simp -implicitDefEqProofs only [kk0, kk1, kk2, kk3, rW_block, ↓two_true, ↓two_false, rW_cond, rO_guard, oS_some, oM_some, mkv, aggAt, Nat.reduceLeDiff, Nat.reduceSub, Nat.reduceMul, cond_true, cond_false, Option.bind_some, List.length_append, List.length_cons, List.length_nil, List.append_assoc, List.cons_append, List.nil_append, List.set_cons_zero, List.set_cons_succ, List.size_toArray, List.all_cons, List.all_nil, List.drop_zero, List.drop_succ_cons, List.take_succ_cons, List.take_zero, List.mem_cons, Prod.mk.injEq, List.not_mem_nil, implies_true, List.getElem?_toArray, List.getElem?_cons_zero, List.getElem?_cons_succ, List.getElem?_nil, Option.getD_some, Option.getD_none, Nat.reduceEqDiff, reduceIte, Nat.reduceAdd, List.map_toArray, List.map_cons, List.map_nil, Bool.false_eq_true, Nat.reduceBEq, Option.map_some, Option.map_none, reduceCtorEq, ap24_24, ap43_43, bd45, bs24_0, bs24_1, bs43_0, fa45_0, fa45_1, ix43, ld3, ld43, sn43, sl43, h1, h3, h4, h5, g0, gb, ev1, hm, w1, w2, w3, ev2]
      refine oA_own (g.own 0 rfl) (hv1'.ext g.ext) (by have := a.l1; simp; omega) fun a3 c3 H3 o3 x3 => ?_
      have g := (g.push 0 rfl o3 x3)
      simp only [List.length_nil, Nat.zero_add, List.nil_append] at g ⊢
      have gb3 := rd_ext g0 g.ext
      have g := g.lit (cs := []) (n := 0) [] rfl rfl
      have ge := g.ext
      have gb4 := rd_ext g0 ge
      simp -implicitDefEqProofs only [kk0, kk1, kk2, kk3, rW_block, ↓two_true, ↓two_false, rW_cond, rO_guard, oS_some, oM_some, mkv, aggAt, Nat.reduceLeDiff, Nat.reduceSub, Nat.reduceMul, cond_true, cond_false, Option.bind_some, List.length_append, List.length_cons, List.length_nil, List.append_assoc, List.cons_append, List.nil_append, List.set_cons_zero, List.set_cons_succ, List.size_toArray, List.all_cons, List.all_nil, List.drop_zero, List.drop_succ_cons, List.take_succ_cons, List.take_zero, List.mem_cons, Prod.mk.injEq, List.not_mem_nil, implies_true, List.getElem?_toArray, List.getElem?_cons_zero, List.getElem?_cons_succ, List.getElem?_nil, Option.getD_some, Option.getD_none, Nat.reduceEqDiff, reduceIte, Nat.reduceAdd, List.map_toArray, List.map_cons, List.map_nil, Bool.false_eq_true, Nat.reduceBEq, Option.map_some, Option.map_none, reduceCtorEq, ap24_24, ap43_43, bd45, bs24_0, bs24_1, bs43_0, fa45_0, fa45_1, ix43, ld3, ld43, sn43, sl43, h1, h3, h4, h5, g0, gb3, gb4, hm, w1, w2, w3, ev2]
      refine oA_own (g.own 0 rfl) (hv2.ext ge) (by simp; omega) fun a4 c4 H4 o4 x4 => ?_
      have g := (g.push 0 rfl o4 x4)
      simp only [List.length_nil, Nat.zero_add, List.nil_append, List.set_cons_zero] at g ⊢
      have r1 := (g.own 1 rfl).kok (by have := a.l1; omega)
      have r2 := (g.own 0 rfl).kok (by omega)
      have f1 := g.fr 1 _ rfl
      have f2 := g.fr 0 _ rfl
      have dj := g.dj 1 0 _ _ (by decide) rfl rfl
      simp only [It.bs] at f1 f2 dj
      simp -implicitDefEqProofs only [kk0, kk1, kk2, kk3, rW_block, ↓two_true, ↓two_false, rW_cond, rO_guard, oS_some, oM_some, mkv, aggAt, Nat.reduceLeDiff, Nat.reduceSub, Nat.reduceMul, cond_true, cond_false, Option.bind_some, List.length_append, List.length_cons, List.length_nil, List.append_assoc, List.cons_append, List.nil_append, List.set_cons_zero, List.set_cons_succ, List.size_toArray, List.all_cons, List.all_nil, List.drop_zero, List.drop_succ_cons, List.take_succ_cons, List.take_zero, List.mem_cons, Prod.mk.injEq, List.not_mem_nil, implies_true, List.getElem?_toArray, List.getElem?_cons_zero, List.getElem?_cons_succ, List.getElem?_nil, Option.getD_some, Option.getD_none, Nat.reduceEqDiff, reduceIte, Nat.reduceAdd, List.map_toArray, List.map_cons, List.map_nil, Bool.false_eq_true, Nat.reduceBEq, Option.map_some, Option.map_none, reduceCtorEq, ap24_24, ap43_43, bd45, bs24_0, bs24_1, bs43_0, fa45_0, fa45_1, ix43, ld3, ld43, sn43, sl43, h1, h3, h4, h5]
      refine oA_newn 2 rfl hnw g.ext ⟨_, _, rfl, r1.1, _, _, rfl, r2.1, rfl⟩ ?_ ?_ (pw_get (by simp; exact dj)) (ext_len he) (by omega) fun b' H5 f5 x5 v5 => ?_
      · simp; exact ⟨r1.2.1, r2.2.1⟩
      · simp only [List.mem_cons, List.not_mem_nil, or_false]
        rintro y (rfl | rfl) b hb
        · exact f1 b hb
        · exact f2 b hb
      · have he5 := x5.ext (H0 := Hb) (ext_trans he g.ext) hnw.blk
        simp -implicitDefEqProofs only [kk0, kk1, kk2, kk3, rW_block, ↓two_true, ↓two_false, rW_cond, rO_guard, oS_some, oM_some, mkv, aggAt, Nat.reduceLeDiff, Nat.reduceSub, Nat.reduceMul, cond_true, cond_false, Option.bind_some, List.length_append, List.length_cons, List.length_nil, List.append_assoc, List.cons_append, List.nil_append, List.set_cons_zero, List.set_cons_succ, List.size_toArray, List.all_cons, List.all_nil, List.drop_zero, List.drop_succ_cons, List.take_succ_cons, List.take_zero, List.mem_cons, Prod.mk.injEq, List.not_mem_nil, implies_true, List.getElem?_toArray, List.getElem?_cons_zero, List.getElem?_cons_succ, List.getElem?_nil, Option.getD_some, Option.getD_none, Nat.reduceEqDiff, reduceIte, Nat.reduceAdd, List.map_toArray, List.map_cons, List.map_nil, Bool.false_eq_true, Nat.reduceBEq, Option.map_some, Option.map_none, reduceCtorEq, ap24_24, ap43_43, bd45, bs24_0, bs24_1, bs43_0, fa45_0, fa45_1, ix43, ld3, ld43, sn43, sl43, h1, h3, h4, h5, w2]
        refine ⟨(i + 1, _, _, _), by simp only; omega, by rw [hm], rfl, rfl, hlt, f5, ?_, he5⟩
        rw [v5, hcv, take_snoc hlr]
        simp only [List.map_cons, List.map_nil, r1.2.2, r2.2.2]
    · have hil : i = n := Nat.le_antisymm hi (Nat.not_lt.1 (by simpa using hc))
      subst hil
      refine ⟨⟨ys, ?_, ?_⟩, he0⟩
      · rw [hrl]; exact hnw.back (by omega)
      · rw [hcv, List.take_of_length_le (by omega)]

theorem LD.ncmp {c : Option Nat} {H0 H H' : AH} {L : List It} {v : Value} {ks : List CK} {n : Nat} {ys : List Value} {V : List CV} (h : LD c H0 H L) (hv : New H H' v ks n ys) (hV : cvs H' ys = V) (hf : ∃ K, H' = H ++ K) : LD c H0 H' (.cmp (.row v ks n ys) V :: L) := by
  obtain ⟨K, rfl⟩ := hf
  exact h.add (by simp) (fun b hb _ => List.getElem?_append_left hb) (fun g e => (h.cur g e).mono) ⟨hv.ot, hV⟩ fun b hb => hv.fr b hb
theorem LD.rows {c : Option Nat} {H0 H : AH} {L : List It} {v : Value} {n : Nat} {ys : List Value} {rs : List (List Int × List Int)} (h : LD c H0 H L) (i : Nat) (hi : L[i]? = some (.cmp (.row v [.r, .r] n ys) (rowsV rs))) : RowsA H v rs ∧ n = rs.length := by
  obtain ⟨h1, h2⟩ := h.ok i _ hi
  exact FRow.rows (OT.frow h1) h2
theorem LD.concat {c : Option Nat} {H0 H H' : AH} {L : List It} {v : Value} {l : List Int} (h : LD c H0 H L) (ho : OwnRow H' v l) (hf : ∀ b, blkOf v = some b → H.length ≤ b) (he : ∃ K, H' = H ++ K) : LD c H0 H' (.row v l :: L) := h.nrow ⟨ho, hf⟩ he

/-- The place of an array in a row of arrays, and the array. -/
theorem ixR {H : AH} {a : Option Addr} {n c : Nat} {rs : List (List Int × List Int)} (h : RowsA H (.slice a n c) rs) {i : Nat} (hi : i < rs.length) : ∃ b o cs p q, aIndexAddr Try.prog 24 (.slice a n c) (.int .i64 i) = some (.pointer (some ⟨b, o + i * 2, none⟩)) ∧ rd H b = some cs ∧ cs[o + i * 2]? = some p ∧ cs[o + i * 2 + 1]? = some q ∧ IntRow H p rs[i].1 ∧ IntRow H q rs[i].2 := by
  obtain ⟨a', c', e, g⟩ := h
  injection e with e1 e2 e3
  subst e1; subst e2; subst e3
  obtain ⟨b, o, cs, rfl, rfl, h1, h2⟩ := g (by omega)
  obtain ⟨p, q, h3, h4, h5, h6⟩ := h2 i hi
  refine ⟨b, o, cs, p, q, ?_, h1, h3, h4, h5, h6⟩
  rw [ix24, if_pos (by omega)]
  simp
def idxP (n x : Int) : Int := if x < 0 then x + n else x
def pickD (n : Int) (rs : List (List Int × List Int)) (l : List Int) : List Int := l.flatMap fun x => ((rs[(idxP n x).toNat]?).getD ([], [])).2
def pickR (sa da sb db : List Int) : (List Int × List Int) × Int :=
  if arrOk sa da && arrOk sb db then
    (if sb.length = 0 ∨ sa.length + sb.length - 1 > 3 then (([], []), 4)
    else if (da.all fun x => inB (idxP (sb.headD 0) x) 0 (sb.headD 0 - 1)) = true then
      (if sizeI (sa ++ sb.tail) < 0 then (([], []), 6) else ((sa ++ sb.tail, pickD (sb.headD 0) (rowsR sb db) da), 0))
    else (([], []), 5))
  else (([], []), 1)
theorem pickD_snoc {n : Int} {rs : List (List Int × List Int)} {l : List Int} {x : Int} : pickD n rs (l ++ [x]) = pickD n rs l ++ ((rs[(idxP n x).toNat]?).getD ([], [])).2 := by simp [pickD]
theorem prodI_append {l m : List Int} : prodI (l ++ m) = prodI l * prodI m := by
  induction l with
  | nil => simp [prodI]
  | cons x l ih => rw [List.cons_append, prodI_cons, prodI_cons, ih, Int.mul_assoc]
theorem rowsR_len' {sb db : List Int} (h : arrOk sb db = true) (hne : sb ≠ []) : ((rowsR sb db).length : Int) = sb.headD 0 := by
  obtain ⟨x, tl, rfl⟩ := List.exists_cons_of_ne_nil hne
  obtain ⟨n, rfl, -, -⟩ := arrOk_rows h
  rw [rowsR_len rfl]; rfl
/-- The rows' numbers. -/
theorem rowsR_row {sb db : List Int} (h : arrOk sb db = true) {i : Nat} {r : List Int × List Int} (hr : (rowsR sb db)[i]? = some r) : r.1 = sb.tail ∧ 0 ≤ sizeI sb.tail ∧ (r.2.length : Int) = sizeI sb.tail ∧ r.2.all numOk = true ∧ r.2.length ≤ 300 := by
  cases sb with
  | nil => simp [rowsR] at hr
  | cons x tl =>
    obtain ⟨n, rfl, hn3, hm0⟩ := arrOk_rows h
    have hi := (List.getElem?_eq_some_iff.1 hr).1
    rw [rowsR_len rfl] at hi
    obtain ⟨m, hm, hm3, hdl⟩ := hm0 (by omega)
    rw [rowsR_get rfl hm hi] at hr
    cases hr
    have hb1 : (i + 1) * m ≤ n * m := Nat.mul_le_mul_right m hi
    have hb2 : (i + 1) * m = i * m + m := by rw [Nat.add_mul, Nat.one_mul]
    have hd : ((db.drop (i * m)).take m).length = m := by simp; omega
    refine ⟨rfl, by simp only [List.tail_cons]; omega, by simp only [List.tail_cons]; rw [hm, hd], ?_, by simp only; omega⟩
    unfold arrOk at h
    simp only [Bool.and_eq_true] at h
    rw [List.all_eq_true] at h ⊢
    exact fun y hy => h.2 y (List.mem_of_mem_drop (List.mem_of_mem_take hy))
theorem pickD_all {n : Int} {sb db l : List Int} (h : arrOk sb db = true) : (pickD n (rowsR sb db) l).all numOk = true := by
  rw [List.all_eq_true]
  intro y hy
  obtain ⟨x, hx, hy⟩ := List.mem_flatMap.1 hy
  cases hr : (rowsR sb db)[(idxP n x).toNat]? with
  | none => rw [hr] at hy; simp at hy
  | some r =>
    rw [hr] at hy
    exact List.all_eq_true.1 (rowsR_row h hr).2.2.2.1 y hy
theorem pickD_len {sb db : List Int} (h : arrOk sb db = true) (hne : sb ≠ []) : ∀ {l : List Int}, (l.all fun x => inB (idxP (sb.headD 0) x) 0 (sb.headD 0 - 1)) = true → ((pickD (sb.headD 0) (rowsR sb db) l).length : Int) = l.length * sizeI sb.tail
  | [], _ => by simp [pickD]
  | x :: l, hl => by
    simp only [List.all_cons, Bool.and_eq_true] at hl
    have hn := rowsR_len' h hne
    have hx : 0 ≤ idxP (sb.headD 0) x ∧ idxP (sb.headD 0) x ≤ sb.headD 0 - 1 := by simpa [inB] using hl.1
    have hi : (idxP (sb.headD 0) x).toNat < (rowsR sb db).length := by omega
    have h1 := pickD_len h hne hl.2
    obtain ⟨_, _, h2, _⟩ := rowsR_row h (List.getElem?_eq_getElem hi)
    have e : pickD (sb.headD 0) (rowsR sb db) (x :: l) = (rowsR sb db)[(idxP (sb.headD 0) x).toNat].2 ++ pickD (sb.headD 0) (rowsR sb db) l := by
      simp only [pickD, List.flatMap_cons, List.getElem?_eq_getElem hi, Option.getD_some]
    rw [e, List.length_append, Int.natCast_add, h1, h2, List.length_cons, Int.natCast_add, Int.add_mul]
    omega
/-- What is picked is an array that is right where its shape is. -/
theorem pick_ok {sa da sb db : List Int} (h1 : arrOk sa da = true) (h2 : arrOk sb db = true) (hne : sb ≠ []) (hx : (da.all fun x => inB (idxP (sb.headD 0) x) 0 (sb.headD 0 - 1)) = true) :
    arrOk (sa ++ sb.tail) (pickD (sb.headD 0) (rowsR sb db) da) = decide (0 ≤ sizeI (sa ++ sb.tail)) := by
  have hl := pickD_len h2 hne hx
  have ha := pickD_all (n := sb.headD 0) (l := da) h2
  unfold arrOk
  rw [ha, Bool.and_true]
  have hsa : (da.length : Int) = sizeI sa := by unfold arrOk at h1; simp at h1; exact h1.1
  obtain ⟨_, s2, s3⟩ := sizeI_ok (l := sa) (by omega)
  by_cases hs : 0 ≤ sizeI (sa ++ sb.tail)
  · rw [decide_eq_true hs, beq_iff_eq, hl]
    obtain ⟨g1, g2, g3⟩ := sizeI_ok hs
    rw [g3, prodI_append, ← s3, hsa]
    cases hda : da with
    | nil =>
      have : sizeI sa = 0 := by rw [← hsa, hda]; rfl
      rw [this]; simp
    | cons x l =>
      rw [hda] at hx
      simp only [List.all_cons, Bool.and_eq_true] at hx
      have hx0 : 0 ≤ idxP (sb.headD 0) x ∧ idxP (sb.headD 0) x ≤ sb.headD 0 - 1 := by simpa [inB] using hx.1
      obtain ⟨y, tl, rfl⟩ := List.exists_cons_of_ne_nil hne
      obtain ⟨n, rfl, hn3, hm0⟩ := arrOk_rows h2
      simp only [List.headD_cons] at hx0
      obtain ⟨m, hm, _⟩ := hm0 (by omega)
      obtain ⟨_, _, s4⟩ := sizeI_ok (l := tl) (by omega)
      simp only [List.tail_cons]
      rw [s4]
  · rw [decide_eq_false hs, beq_eq_false_iff_ne]
    omega

theorem implPick_ok {H : AH} {pa qa pb qb : Value} {sa da sb db : List Int} (a : AR H pa qa sa da) (b : AR H pb qb sb db) : CallsA Try.prog 44 #[.agg #[pa, qa], .agg #[pb, qb]] H fun r H' => Ans1 H H' r (pickR sa da sb db) := by
  have al := a.lim
  have bl := b.lim
  obtain ⟨a1, c1, a2, c2, rfl, rfl⟩ := a.o1
  obtain ⟨b1, d1, b2, d2, rfl, rfl⟩ := b.o1
  refine w44 ?_
  unfold k44
  have q := (LD.nil (H := H)).box [.slice a1 sa.length c1, .slice a2 da.length c2] |>.box [.slice b1 sb.length d1, .slice b2 db.length d2] |>.box [.slice none 0 0, .slice none 0 0]
  simp -implicitDefEqProofs only [kk0, kk1, kk2, kk3, rW_block, ↓two_true, ↓two_false, rW_cond, rO_guard, oS_some, oM_some, mkv, aggAt, Nat.reduceLeDiff, Nat.reduceSub, Nat.reduceMul, cond_true, cond_false, Option.bind_some, List.length_append, List.length_cons, List.length_nil, List.append_assoc, List.cons_append, List.nil_append, List.set_cons_zero, List.set_cons_succ, List.size_toArray, List.all_cons, List.all_nil, List.drop_zero, List.drop_succ_cons, List.take_succ_cons, List.take_zero, List.mem_cons, Prod.mk.injEq, List.not_mem_nil, implies_true, List.getElem?_toArray, List.getElem?_cons_zero, List.getElem?_cons_succ, List.getElem?_nil, Option.getD_some, Option.getD_none, Nat.reduceEqDiff, reduceIte, Nat.reduceAdd, List.map_toArray, List.map_cons, List.map_nil, Bool.false_eq_true, Nat.reduceBEq, Option.map_some, Option.map_none, reduceCtorEq, al45, ap43_43, bd45, bs163_2, fa45_0, fa45_1, ix24, ix43, ld3, ld43, ld45, ln24, ln43, sn43, sl43, st43, st45] at q ⊢
  unfold pickR
  refine (implOk_ar (a.ext q.ext)).mono ?_
  rintro _ H1 ⟨rfl, he⟩
  have q := q.extd he
  clear he
  have e1 := (q.rd 0 rfl).2
  have e2 := fun k => rd_own (set_at (k' := ⟨k, .own⟩) (q.ok 0 _ rfl))
  have e3 := (q.rd 1 rfl).1
  have e4 := (q.rd 2 rfl).1
  simp -implicitDefEqProofs only [kk0, kk1, kk2, kk3, rW_block, ↓two_true, ↓two_false, rW_cond, rO_guard, oS_some, oM_some, mkv, aggAt, Nat.reduceLeDiff, Nat.reduceSub, Nat.reduceMul, cond_true, cond_false, Option.bind_some, List.length_append, List.length_cons, List.length_nil, List.append_assoc, List.cons_append, List.nil_append, List.set_cons_zero, List.set_cons_succ, List.size_toArray, List.all_cons, List.all_nil, List.drop_zero, List.drop_succ_cons, List.take_succ_cons, List.take_zero, List.mem_cons, Prod.mk.injEq, List.not_mem_nil, implies_true, List.getElem?_toArray, List.getElem?_cons_zero, List.getElem?_cons_succ, List.getElem?_nil, Option.getD_some, Option.getD_none, Nat.reduceEqDiff, reduceIte, Nat.reduceAdd, List.map_toArray, List.map_cons, List.map_nil, Bool.false_eq_true, Nat.reduceBEq, Option.map_some, Option.map_none, reduceCtorEq, al45, ap43_43, bd45, bs163_2, fa45_0, fa45_1, ix24, ix43, ld3, ld43, ld45, ln24, ln43, sn43, sl43, st43, st45, e1, e2, e3, e4]
  refine two_intro (fun u => ?_) (fun u => ?_)
  · rw [show arrOk sa da = false by simpa using u]
    exact Ans1.err (q.set 0 rfl _)
  have v1 : arrOk sa da = true := by simpa using u
  rw [v1]
  clear u
  refine (implOk_ar (b.ext q.ext)).mono ?_
  rintro _ H2 ⟨rfl, he⟩
  have q := q.extd he
  clear he
  have e1 := (q.rd 0 rfl).2
  have e2 := fun k => rd_own (set_at (k' := ⟨k, .own⟩) (q.ok 0 _ rfl))
  have e3 := (q.rd 1 rfl).1
  have e4 := (q.rd 2 rfl).1
  simp -implicitDefEqProofs only [kk0, kk1, kk2, kk3, rW_block, ↓two_true, ↓two_false, rW_cond, rO_guard, oS_some, oM_some, mkv, aggAt, Nat.reduceLeDiff, Nat.reduceSub, Nat.reduceMul, cond_true, cond_false, Option.bind_some, List.length_append, List.length_cons, List.length_nil, List.append_assoc, List.cons_append, List.nil_append, List.set_cons_zero, List.set_cons_succ, List.size_toArray, List.all_cons, List.all_nil, List.drop_zero, List.drop_succ_cons, List.take_succ_cons, List.take_zero, List.mem_cons, Prod.mk.injEq, List.not_mem_nil, implies_true, List.getElem?_toArray, List.getElem?_cons_zero, List.getElem?_cons_succ, List.getElem?_nil, Option.getD_some, Option.getD_none, Nat.reduceEqDiff, reduceIte, Nat.reduceAdd, List.map_toArray, List.map_cons, List.map_nil, Bool.false_eq_true, Nat.reduceBEq, Option.map_some, Option.map_none, reduceCtorEq, al45, ap43_43, bd45, bs163_2, fa45_0, fa45_1, ix24, ix43, ld3, ld43, ld45, ln24, ln43, sn43, sl43, st43, st45, e1, e2, e3, e4]
  refine two_intro (fun u => ?_) (fun u => ?_)
  · rw [show arrOk sb db = false by simpa using u]
    exact Ans1.err (q.set 0 rfl _)
  have v2 : arrOk sb db = true := by simpa using u
  rw [v2]
  clear u
  rw [if_pos (show (true && true) = true from rfl)]
  have w1 : IntKind.i64.wrap (↑sa.length + ↑sb.length) = ↑sa.length + ↑sb.length := IntWalk.i64_in _ (by have := a.l1; have := b.l1; omega)
  have w2 : IntKind.i64.wrap (↑sa.length + ↑sb.length - 1) = ↑sa.length + ↑sb.length - 1 := IntWalk.i64_in _ (by have := a.l1; have := b.l1; omega)
  have w3 : IntKind.i64.wrap (IntKind.i64.wrap (↑sa.length + ↑sb.length) - 1) = ↑sa.length + ↑sb.length - 1 := by rw [w1, w2]
  refine two_intro (fun u => ?_) (fun u => two_intro (fun u2 => ?_) (fun u2 => ?_))
  · rw [if_pos (show sb.length = 0 ∨ sa.length + sb.length - 1 > 3 from .inl (by simpa using u))]
    exact Ans1.err (q.set 0 rfl _)
  · have u2 := of_decide_eq_true u2
    rw [w3] at u2
    rw [if_pos (show sb.length = 0 ∨ sa.length + sb.length - 1 > 3 from .inr (by have := beq_eq_false_iff_ne.1 u; omega))]
    exact Ans1.err (q.set 0 rfl _)
  have u2 := of_decide_eq_false u2
  rw [w3] at u2
  have hr : ¬ (sb.length = 0 ∨ sa.length + sb.length - 1 > 3) := by have := beq_eq_false_iff_ne.1 u; omega
  have hne : sb ≠ [] := by rintro rfl; simp at hr
  rw [if_neg hr]
  have hsl : sa.length ≤ 3 ∧ sb.length ≤ 4 := by omega
  clear u u2
  refine (implRows_ok (b.ext q.ext)).mono ?_
  rintro v H3 ⟨⟨ys, hnw, hcv⟩, he⟩
  rw [show rowsA sb db = rowsR sb db by unfold rowsA; rw [v2]; rfl] at hnw hcv
  have q := q.ncmp hnw hcv he
  obtain ⟨rs, hrs⟩ : ∃ rs, rowsR sb db = rs := ⟨_, rfl⟩
  have hpick := pick_ok (da := da) v1 v2 hne
  have hrl := rowsR_len' v2 hne
  have hrow := fun (i : Nat) r (h : (rowsR sb db)[i]? = some r) => (rowsR_row v2 h)
  rw [hrs] at q hpick hrl hrow ⊢
  clear hnw hcv he e1 e2 e3 e4
  obtain ⟨ra, rc, rfl, -⟩ := (q.rows 0 rfl).1
  obtain ⟨x, tl, hsb⟩ := List.exists_cons_of_ne_nil hne
  have e2 : sb.length - 1 = tl.length := by rw [hsb]; simp
  have htl : sb.tail = tl := by rw [hsb]; rfl
  obtain ⟨t1, y1, ev1, hv1, -⟩ := IntRow.sl (P := Try.prog) (t := 43) (e := 3) (lo := some (.int .i64 1)) (hi := none) (x := 1) (y := sb.length) Try.underlying43 (by kernel_rfl) (b.ext q.ext).os rfl rfl (by rw [hsb]; simp) (Nat.le_refl _)
  have e1 : (sb.drop 1).take (sb.length - 1) = tl := by rw [hsb]; simp
  rw [e1, e2] at hv1
  rw [e2] at ev1
  obtain ⟨S, hS⟩ : ∃ S, sa ++ tl = S := ⟨_, rfl⟩
  rw [htl, hS] at hpick
  rw [htl, hS]
  have hSl : S.length ≤ 7 := by rw [← hS]; simp; omega
  simp -implicitDefEqProofs only [kk0, kk1, kk2, kk3, rW_block, ↓two_true, ↓two_false, rW_cond, rO_guard, oS_some, oM_some, mkv, aggAt, Nat.reduceLeDiff, Nat.reduceSub, Nat.reduceMul, cond_true, cond_false, Option.bind_some, List.length_append, List.length_cons, List.length_nil, List.append_assoc, List.cons_append, List.nil_append, List.set_cons_zero, List.set_cons_succ, List.size_toArray, List.all_cons, List.all_nil, List.drop_zero, List.drop_succ_cons, List.take_succ_cons, List.take_zero, List.mem_cons, Prod.mk.injEq, List.not_mem_nil, implies_true, List.getElem?_toArray, List.getElem?_cons_zero, List.getElem?_cons_succ, List.getElem?_nil, Option.getD_some, Option.getD_none, Nat.reduceEqDiff, reduceIte, Nat.reduceAdd, List.map_toArray, List.map_cons, List.map_nil, Bool.false_eq_true, Nat.reduceBEq, Option.map_some, Option.map_none, reduceCtorEq, al45, ap43_43, bd45, bs163_2, fa45_0, fa45_1, ix24, ix43, ld3, ld43, ld45, ln24, ln43, sn43, sl43, st43, st45, (q.rd 2 rfl).1, (q.rd 3 rfl).1, ev1]
  have kA : KOk H3 .r (.slice a1 sa.length c1) := ⟨(a.ext q.ext).os.ok, by rw [(a.ext q.ext).os.row]; omega⟩
  have kB : KOk H3 .r (.slice t1 tl.length y1) := ⟨hv1.ok, by rw [hv1.row]; omega⟩
  have hcv : cvs (H3 ++ [⟨[.slice a1 sa.length c1, .slice t1 tl.length y1], .own⟩]) [.slice a1 sa.length c1, .slice t1 tl.length y1] = [.r sa, .r tl] := by
    have k1 := ((a.ext q.ext).os.mono (L := [⟨[.slice a1 sa.length c1, .slice t1 tl.length y1], .own⟩]))
    have k2 := (hv1.mono (L := [⟨[.slice a1 sa.length c1, .slice t1 tl.length y1], .own⟩]))
    simp only [cvs, List.map_cons, List.map_nil, cv_row k1.ok, cv_row k2.ok, k1.row, k2.row]
  have q := q.box [.slice a1 sa.length c1, .slice t1 tl.length y1]
  refine (concatI_ok (fRow2 (q.ok 0 _ rfl) kA.mono kB.mono) (by decide) (by rw [hcv]; simp [rsum, rsum1]; omega)).mono ?_
  rw [hcv, show flatR [CV.r sa, CV.r tl] = S by simp [flatR, hS]]
  rintro _ H4 ⟨⟨xa, xc, rfl, ho, hf⟩, he⟩
  have q := ((q.concat ho hf he).nrow (v := .slice none 0 0) (l := []) ⟨OwnRow.nil, fun b hb => by simp [blkOf] at hb⟩ ext_refl).box [.slice xa S.length xc, .slice none 0 0]
  simp -implicitDefEqProofs only [kk0, kk1, kk2, kk3, rW_block, ↓two_true, ↓two_false, rW_cond, rO_guard, oS_some, oM_some, mkv, aggAt, Nat.reduceLeDiff, Nat.reduceSub, Nat.reduceMul, cond_true, cond_false, Option.bind_some, List.length_append, List.length_cons, List.length_nil, List.append_assoc, List.cons_append, List.nil_append, List.set_cons_zero, List.set_cons_succ, List.size_toArray, List.all_cons, List.all_nil, List.drop_zero, List.drop_succ_cons, List.take_succ_cons, List.take_zero, List.mem_cons, Prod.mk.injEq, List.not_mem_nil, implies_true, List.getElem?_toArray, List.getElem?_cons_zero, List.getElem?_cons_succ, List.getElem?_nil, Option.getD_some, Option.getD_none, Nat.reduceEqDiff, reduceIte, Nat.reduceAdd, List.map_toArray, List.map_cons, List.map_nil, Bool.false_eq_true, Nat.reduceBEq, Option.map_some, Option.map_none, reduceCtorEq, al45, ap43_43, bd45, bs163_2, fa45_0, fa45_1, ix24, ix43, ld3, ld43, ld45, ln24, ln43, sn43, sl43, st43, st45] at ⊢
  have e0 := (q.rd 7 rfl).1
  try simp -implicitDefEqProofs only [kk0, kk1, kk2, kk3, rW_block, ↓two_true, ↓two_false, rW_cond, rO_guard, oS_some, oM_some, mkv, aggAt, Nat.reduceLeDiff, Nat.reduceSub, Nat.reduceMul, cond_true, cond_false, Option.bind_some, List.length_append, List.length_cons, List.length_nil, List.append_assoc, List.cons_append, List.nil_append, List.set_cons_zero, List.set_cons_succ, List.size_toArray, List.all_cons, List.all_nil, List.drop_zero, List.drop_succ_cons, List.take_succ_cons, List.take_zero, List.mem_cons, Prod.mk.injEq, List.not_mem_nil, implies_true, List.getElem?_toArray, List.getElem?_cons_zero, List.getElem?_cons_succ, List.getElem?_nil, Option.getD_some, Option.getD_none, Nat.reduceEqDiff, reduceIte, Nat.reduceAdd, List.map_toArray, List.map_cons, List.map_nil, Bool.false_eq_true, Nat.reduceBEq, Option.map_some, Option.map_none, reduceCtorEq, al45, ap43_43, bd45, bs163_2, fa45_0, fa45_1, ix24, ix43, ld3, ld43, ld45, ln24, ln43, sn43, sl43, st43, st45, e0]
  refine rW_loop (σ := Nat × Option Addr × Nat) (fun x tm H' => tm 2 = .pointer (some ⟨H.length, 0, none⟩) ∧ tm 3 = .pointer (some ⟨H.length + 1, 0, none⟩) ∧ tm 4 = .pointer (some ⟨H.length + 2, 0, none⟩) ∧ tm 6 = .slice ra rs.length rc ∧ tm 7 = .pointer (some ⟨H4.length, 0, none⟩) ∧ tm 48 = .slice a2 da.length c2 ∧ tm 49 = .int .i64 da.length ∧ tm 50 = .int .i64 x.1 ∧ x.1 ≤ da.length ∧ ((da.take x.1).all fun x => inB (idxP (sb.headD 0) x) 0 (sb.headD 0 - 1)) = true ∧ LD none H H' [.box H4.length [.slice xa S.length xc, .slice x.2.1 (pickD (sb.headD 0) rs (da.take x.1)).length x.2.2], .row (.slice x.2.1 (pickD (sb.headD 0) rs (da.take x.1)).length x.2.2) (pickD (sb.headD 0) rs (da.take x.1)), .row (.slice xa S.length xc) S, .box H3.length [.slice a1 sa.length c1, .slice t1 tl.length y1], .cmp (.row (.slice ra rs.length rc) [.r, .r] rs.length ys) (rowsV rs), .box (H.length + 2) [.slice none 0 0, .slice none 0 0], .box (H.length + 1) [.slice b1 sb.length d1, .slice b2 db.length d2], .box H.length [.slice a1 sa.length c1, .slice a2 da.length c2]]) (fun x => da.length - x.1) (0, none, 0) ?_ ?_
  · exact ⟨rfl, rfl, rfl, rfl, rfl, rfl, rfl, rfl, Nat.zero_le _, rfl, q⟩
  · rintro ⟨i, av, cv⟩ tm H5 ⟨h2, h3, h4, h6, h7, h48, h49, h50, hi, hall, q⟩
    simp only at h50 hi hall q
    simp -implicitDefEqProofs only [kk0, kk1, kk2, kk3, rW_block, ↓two_true, ↓two_false, rW_cond, rO_guard, oS_some, oM_some, mkv, aggAt, Nat.reduceLeDiff, Nat.reduceSub, Nat.reduceMul, cond_true, cond_false, Option.bind_some, List.length_append, List.length_cons, List.length_nil, List.append_assoc, List.cons_append, List.nil_append, List.set_cons_zero, List.set_cons_succ, List.size_toArray, List.all_cons, List.all_nil, List.drop_zero, List.drop_succ_cons, List.take_succ_cons, List.take_zero, List.mem_cons, Prod.mk.injEq, List.not_mem_nil, implies_true, List.getElem?_toArray, List.getElem?_cons_zero, List.getElem?_cons_succ, List.getElem?_nil, Option.getD_some, Option.getD_none, Nat.reduceEqDiff, reduceIte, Nat.reduceAdd, List.map_toArray, List.map_cons, List.map_nil, Bool.false_eq_true, Nat.reduceBEq, Option.map_some, Option.map_none, reduceCtorEq, al45, ap43_43, bd45, bs163_2, fa45_0, fa45_1, ix24, ix43, ld3, ld43, ld45, ln24, ln43, sn43, sl43, st43, st45, h2, h3, h4, h6, h7, h48, h49, h50]
    refine two_intro (fun hc => ?_) (fun hc => ?_)
    · have hc' : i < da.length := by simpa using hc
      obtain ⟨b9, o9, cs9, ei, hrd, hcell⟩ := ixI (a.ext q.ext).od hc'
      have hnum : -1000000000000 ≤ da[i] ∧ da[i] ≤ 1000000000000 := by
        unfold arrOk at v1
        simp only [Bool.and_eq_true] at v1
        have := List.all_eq_true.1 v1.2 da[i] (List.getElem_mem hc')
        simpa [numOk, inB] using this
      have hrs3 : rs.length ≤ 300 := by
        rw [← hrs, hsb]
        rw [hsb] at v2
        obtain ⟨n, e, hn3, -⟩ := arrOk_rows v2
        rw [rowsR_len e]; exact hn3
      have hwl : IntKind.i64.wrap ((rs.length : Int) - 1) = (rs.length : Int) - 1 := IntWalk.i64_in _ (by omega)
      have hwa : IntKind.i64.wrap (da[i] + (rs.length : Int)) = da[i] + (rs.length : Int) := IntWalk.i64_in _ (by omega)
      have hwi : IntKind.i64.wrap ((i : Int) + 1) = ((i + 1 : Nat) : Int) := IntWalk.i64_in _ (by omega)
      have hlD : (pickD (sb.headD 0) rs (da.take i)).length ≤ 90000 := by
        have h1 := pickD_len (l := da.take i) v2 hne hall
        rw [hrs] at h1
        have h3 := sizeI_le (l := sb.tail)
        have h4 : (da.take i).length ≤ 300 := by have := arrOk_len v1; simp; omega
        have : ((pickD (sb.headD 0) rs (da.take i)).length : Int) ≤ 300 * 300 := by
          rw [h1]
          rcases Int.lt_or_le (sizeI sb.tail) 0 with h5 | h5
          · have : ((da.take i).length : Int) * sizeI sb.tail ≤ 0 := Int.mul_nonpos_of_nonneg_of_nonpos (by omega) (by omega)
            omega
          · exact Int.mul_le_mul (by omega) h3 h5 (by omega)
        omega
      have hstep : pickD (sb.headD 0) rs (da.take (i + 1)) = pickD (sb.headD 0) rs (da.take i) ++ ((rs[(idxP (sb.headD 0) da[i]).toNat]?).getD ([], [])).2 := by
        rw [List.take_succ_eq_append_getElem hc', pickD_snoc]
      simp -implicitDefEqProofs only [kk0, kk1, kk2, kk3, rW_block, ↓two_true, ↓two_false, rW_cond, rO_guard, oS_some, oM_some, mkv, aggAt, Nat.reduceLeDiff, Nat.reduceSub, Nat.reduceMul, cond_true, cond_false, Option.bind_some, List.length_append, List.length_cons, List.length_nil, List.append_assoc, List.cons_append, List.nil_append, List.set_cons_zero, List.set_cons_succ, List.size_toArray, List.all_cons, List.all_nil, List.drop_zero, List.drop_succ_cons, List.take_succ_cons, List.take_zero, List.mem_cons, Prod.mk.injEq, List.not_mem_nil, implies_true, List.getElem?_toArray, List.getElem?_cons_zero, List.getElem?_cons_succ, List.getElem?_nil, Option.getD_some, Option.getD_none, Nat.reduceEqDiff, reduceIte, Nat.reduceAdd, List.map_toArray, List.map_cons, List.map_nil, Bool.false_eq_true, Nat.reduceBEq, Option.map_some, Option.map_none, reduceCtorEq, al45, ap43_43, bd45, bs163_2, fa45_0, fa45_1, ix24, ix43, ld3, ld43, ld45, ln24, ln43, sn43, sl43, st43, st45, h2, h3, h4, h6, h7, h48, h49, h50, ei, hrd, hcell]
      obtain ⟨k, hk⟩ : ∃ k, idxP (sb.headD 0) da[i] = k := ⟨_, rfl⟩
      have bad : inB k 0 ((rs.length : Int) - 1) = false → ∀ kk, Ans1 H (H5.set (H.length + 2) kk) (.tuple #[.agg #[.slice none 0 0, .slice none 0 0], .int .i64 5]) (if (da.all fun x => inB (idxP (sb.headD 0) x) 0 (sb.headD 0 - 1)) = true then (if sizeI S < 0 then (([], []), 6) else ((S, pickD (sb.headD 0) rs da), 0)) else (([], []), 5)) := fun hb kk => by
        rw [if_neg]
        · exact Ans1.err (LD.upd q 5 rfl (by simp) (fun b hb hn => List.getElem?_set_ne (fun e => hn e.symm)) (x' := .row (.slice none 0 0) []) OwnRow.nil fun b hb => by simp [It.bs, blkOf] at hb)
        · rw [Bool.not_eq_true, all_take_false (f := fun x => inB (idxP (sb.headD 0) x) 0 (sb.headD 0 - 1)) hc' (by rw [hk, ← hrl]; exact hb)]
      refine two_intro (fun hx => ?_) (fun hx => ?_)
      · have hkx : da[i] + (rs.length : Int) = k := by rw [← hk]; unfold idxP; rw [if_pos (by simpa using hx)]; try rw [hrl]
        have hkw : IntKind.i64.wrap (da[i] + (rs.length : Int)) = k := hwa.trans hkx
        simp -implicitDefEqProofs only [kk0, kk1, kk2, kk3, rW_block, ↓two_true, ↓two_false, rW_cond, rO_guard, oS_some, oM_some, mkv, aggAt, Nat.reduceLeDiff, Nat.reduceSub, Nat.reduceMul, cond_true, cond_false, Option.bind_some, List.length_append, List.length_cons, List.length_nil, List.append_assoc, List.cons_append, List.nil_append, List.set_cons_zero, List.set_cons_succ, List.size_toArray, List.all_cons, List.all_nil, List.drop_zero, List.drop_succ_cons, List.take_succ_cons, List.take_zero, List.mem_cons, Prod.mk.injEq, List.not_mem_nil, implies_true, List.getElem?_toArray, List.getElem?_cons_zero, List.getElem?_cons_succ, List.getElem?_nil, Option.getD_some, Option.getD_none, Nat.reduceEqDiff, reduceIte, Nat.reduceAdd, List.map_toArray, List.map_cons, List.map_nil, Bool.false_eq_true, Nat.reduceBEq, Option.map_some, Option.map_none, reduceCtorEq, al45, ap43_43, bd45, bs163_2, fa45_0, fa45_1, ix24, ix43, ld3, ld43, ld45, ln24, ln43, sn43, sl43, st43, st45, h2, h3, h4, h6, h7, h48, h49, h50, hkw, hwl, within_eq]
        refine two_intro (fun hb => ?_) (fun hb => ?_)
        · simp -implicitDefEqProofs only [kk0, kk1, kk2, kk3, rW_block, ↓two_true, ↓two_false, rW_cond, rO_guard, oS_some, oM_some, mkv, aggAt, Nat.reduceLeDiff, Nat.reduceSub, Nat.reduceMul, cond_true, cond_false, Option.bind_some, List.length_append, List.length_cons, List.length_nil, List.append_assoc, List.cons_append, List.nil_append, List.set_cons_zero, List.set_cons_succ, List.size_toArray, List.all_cons, List.all_nil, List.drop_zero, List.drop_succ_cons, List.take_succ_cons, List.take_zero, List.mem_cons, Prod.mk.injEq, List.not_mem_nil, implies_true, List.getElem?_toArray, List.getElem?_cons_zero, List.getElem?_cons_succ, List.getElem?_nil, Option.getD_some, Option.getD_none, Nat.reduceEqDiff, reduceIte, Nat.reduceAdd, List.map_toArray, List.map_cons, List.map_nil, Bool.false_eq_true, Nat.reduceBEq, Option.map_some, Option.map_none, reduceCtorEq, al45, ap43_43, bd45, bs163_2, fa45_0, fa45_1, ix24, ix43, ld3, ld43, ld45, ln24, ln43, sn43, sl43, st43, st45, h2, h3, h4, h6, h7, (q.rd 5 rfl).2, rd_own (set_at (k' := ⟨[.slice none 0 0, .slice none 0 0], .own⟩) (q.ok 5 _ rfl))]
          exact bad (by simpa using hb) _
        have hb' : inB k 0 ((rs.length : Int) - 1) = true := by simpa using hb
        have hkr : 0 ≤ k ∧ k ≤ (rs.length : Int) - 1 := by simpa [inB] using hb'
        obtain ⟨kn, rfl⟩ : ∃ kn : Nat, k = kn := ⟨k.toNat, by omega⟩
        have hkn : kn < rs.length := by omega
        obtain ⟨b8, o8, cs8, p8, q8, ei8, hr8, hp8, hq8, -, hi8⟩ := ixR (q.rows 4 rfl).1 hkn
        obtain ⟨t8, s8, e8, -⟩ := hi8.op
        subst e8
        have hrl8 := (hrow kn rs[kn] (List.getElem?_eq_getElem hkn)).2.2.2.2
        rw [hk, Int.toNat_natCast, List.getElem?_eq_getElem hkn, Option.getD_some] at hstep
        simp -implicitDefEqProofs only [kk0, kk1, kk2, kk3, rW_block, ↓two_true, ↓two_false, rW_cond, rO_guard, oS_some, oM_some, mkv, aggAt, Nat.reduceLeDiff, Nat.reduceSub, Nat.reduceMul, cond_true, cond_false, Option.bind_some, List.length_append, List.length_cons, List.length_nil, List.append_assoc, List.cons_append, List.nil_append, List.set_cons_zero, List.set_cons_succ, List.size_toArray, List.all_cons, List.all_nil, List.drop_zero, List.drop_succ_cons, List.take_succ_cons, List.take_zero, List.mem_cons, Prod.mk.injEq, List.not_mem_nil, implies_true, List.getElem?_toArray, List.getElem?_cons_zero, List.getElem?_cons_succ, List.getElem?_nil, Option.getD_some, Option.getD_none, Nat.reduceEqDiff, reduceIte, Nat.reduceAdd, List.map_toArray, List.map_cons, List.map_nil, Bool.false_eq_true, Nat.reduceBEq, Option.map_some, Option.map_none, reduceCtorEq, al45, ap43_43, bd45, bs163_2, fa45_0, fa45_1, ix24, ix43, ld3, ld43, ld45, ln24, ln43, sn43, sl43, st43, st45, h2, h3, h4, h6, h7, h48, h49, h50, (q.rd 0 rfl).1, ei8, hr8, hq8, hkw]
        refine oA_own (q.own 1 rfl) hi8 (by omega) fun a9 c9 H6 o9 x9 => ?_
        have q := q.push 1 rfl o9 x9
        have q' := q.set 0 rfl [.slice xa S.length xc, .slice a9 ((pickD (sb.headD 0) rs (da.take i)).length + rs[kn].2.length) c9]
        simp -implicitDefEqProofs only [kk0, kk1, kk2, kk3, rW_block, ↓two_true, ↓two_false, rW_cond, rO_guard, oS_some, oM_some, mkv, aggAt, Nat.reduceLeDiff, Nat.reduceSub, Nat.reduceMul, cond_true, cond_false, Option.bind_some, List.length_append, List.length_cons, List.length_nil, List.append_assoc, List.cons_append, List.nil_append, List.set_cons_zero, List.set_cons_succ, List.size_toArray, List.all_cons, List.all_nil, List.drop_zero, List.drop_succ_cons, List.take_succ_cons, List.take_zero, List.mem_cons, Prod.mk.injEq, List.not_mem_nil, implies_true, List.getElem?_toArray, List.getElem?_cons_zero, List.getElem?_cons_succ, List.getElem?_nil, Option.getD_some, Option.getD_none, Nat.reduceEqDiff, reduceIte, Nat.reduceAdd, List.map_toArray, List.map_cons, List.map_nil, Bool.false_eq_true, Nat.reduceBEq, Option.map_some, Option.map_none, reduceCtorEq, al45, ap43_43, bd45, bs163_2, fa45_0, fa45_1, ix24, ix43, ld3, ld43, ld45, ln24, ln43, sn43, sl43, st43, st45, h2, h3, h4, h6, h7, h48, h49, h50, (q.rd 0 rfl).2, hwi]
        refine ⟨(i + 1, a9, c9), by simp only; omega, rfl, hc', ?_, ?_⟩
        · rw [List.take_succ_eq_append_getElem hc', List.all_append, hall, List.all_cons, List.all_nil, hk, ← hrl, hb']; rfl
        · simp only
          rw [hstep, List.length_append]
          exact q'
      · have hkx : da[i] = k := by rw [← hk]; unfold idxP; rw [if_neg (by simpa using hx)]; try rw [hrl]
        have hkw := hkx
        simp -implicitDefEqProofs only [kk0, kk1, kk2, kk3, rW_block, ↓two_true, ↓two_false, rW_cond, rO_guard, oS_some, oM_some, mkv, aggAt, Nat.reduceLeDiff, Nat.reduceSub, Nat.reduceMul, cond_true, cond_false, Option.bind_some, List.length_append, List.length_cons, List.length_nil, List.append_assoc, List.cons_append, List.nil_append, List.set_cons_zero, List.set_cons_succ, List.size_toArray, List.all_cons, List.all_nil, List.drop_zero, List.drop_succ_cons, List.take_succ_cons, List.take_zero, List.mem_cons, Prod.mk.injEq, List.not_mem_nil, implies_true, List.getElem?_toArray, List.getElem?_cons_zero, List.getElem?_cons_succ, List.getElem?_nil, Option.getD_some, Option.getD_none, Nat.reduceEqDiff, reduceIte, Nat.reduceAdd, List.map_toArray, List.map_cons, List.map_nil, Bool.false_eq_true, Nat.reduceBEq, Option.map_some, Option.map_none, reduceCtorEq, al45, ap43_43, bd45, bs163_2, fa45_0, fa45_1, ix24, ix43, ld3, ld43, ld45, ln24, ln43, sn43, sl43, st43, st45, h2, h3, h4, h6, h7, h48, h49, h50, hkw, hwl, within_eq]
        refine two_intro (fun hb => ?_) (fun hb => ?_)
        · simp -implicitDefEqProofs only [kk0, kk1, kk2, kk3, rW_block, ↓two_true, ↓two_false, rW_cond, rO_guard, oS_some, oM_some, mkv, aggAt, Nat.reduceLeDiff, Nat.reduceSub, Nat.reduceMul, cond_true, cond_false, Option.bind_some, List.length_append, List.length_cons, List.length_nil, List.append_assoc, List.cons_append, List.nil_append, List.set_cons_zero, List.set_cons_succ, List.size_toArray, List.all_cons, List.all_nil, List.drop_zero, List.drop_succ_cons, List.take_succ_cons, List.take_zero, List.mem_cons, Prod.mk.injEq, List.not_mem_nil, implies_true, List.getElem?_toArray, List.getElem?_cons_zero, List.getElem?_cons_succ, List.getElem?_nil, Option.getD_some, Option.getD_none, Nat.reduceEqDiff, reduceIte, Nat.reduceAdd, List.map_toArray, List.map_cons, List.map_nil, Bool.false_eq_true, Nat.reduceBEq, Option.map_some, Option.map_none, reduceCtorEq, al45, ap43_43, bd45, bs163_2, fa45_0, fa45_1, ix24, ix43, ld3, ld43, ld45, ln24, ln43, sn43, sl43, st43, st45, h2, h3, h4, h6, h7, (q.rd 5 rfl).2, rd_own (set_at (k' := ⟨[.slice none 0 0, .slice none 0 0], .own⟩) (q.ok 5 _ rfl))]
          exact bad (by simpa using hb) _
        have hb' : inB k 0 ((rs.length : Int) - 1) = true := by simpa using hb
        have hkr : 0 ≤ k ∧ k ≤ (rs.length : Int) - 1 := by simpa [inB] using hb'
        obtain ⟨kn, rfl⟩ : ∃ kn : Nat, k = kn := ⟨k.toNat, by omega⟩
        have hkn : kn < rs.length := by omega
        obtain ⟨b8, o8, cs8, p8, q8, ei8, hr8, hp8, hq8, -, hi8⟩ := ixR (q.rows 4 rfl).1 hkn
        obtain ⟨t8, s8, e8, -⟩ := hi8.op
        subst e8
        have hrl8 := (hrow kn rs[kn] (List.getElem?_eq_getElem hkn)).2.2.2.2
        rw [hk, Int.toNat_natCast, List.getElem?_eq_getElem hkn, Option.getD_some] at hstep
        simp -implicitDefEqProofs only [kk0, kk1, kk2, kk3, rW_block, ↓two_true, ↓two_false, rW_cond, rO_guard, oS_some, oM_some, mkv, aggAt, Nat.reduceLeDiff, Nat.reduceSub, Nat.reduceMul, cond_true, cond_false, Option.bind_some, List.length_append, List.length_cons, List.length_nil, List.append_assoc, List.cons_append, List.nil_append, List.set_cons_zero, List.set_cons_succ, List.size_toArray, List.all_cons, List.all_nil, List.drop_zero, List.drop_succ_cons, List.take_succ_cons, List.take_zero, List.mem_cons, Prod.mk.injEq, List.not_mem_nil, implies_true, List.getElem?_toArray, List.getElem?_cons_zero, List.getElem?_cons_succ, List.getElem?_nil, Option.getD_some, Option.getD_none, Nat.reduceEqDiff, reduceIte, Nat.reduceAdd, List.map_toArray, List.map_cons, List.map_nil, Bool.false_eq_true, Nat.reduceBEq, Option.map_some, Option.map_none, reduceCtorEq, al45, ap43_43, bd45, bs163_2, fa45_0, fa45_1, ix24, ix43, ld3, ld43, ld45, ln24, ln43, sn43, sl43, st43, st45, h2, h3, h4, h6, h7, h48, h49, h50, (q.rd 0 rfl).1, ei8, hr8, hq8, hkw]
        refine oA_own (q.own 1 rfl) hi8 (by omega) fun a9 c9 H6 o9 x9 => ?_
        have q := q.push 1 rfl o9 x9
        have q' := q.set 0 rfl [.slice xa S.length xc, .slice a9 ((pickD (sb.headD 0) rs (da.take i)).length + rs[kn].2.length) c9]
        simp -implicitDefEqProofs only [kk0, kk1, kk2, kk3, rW_block, ↓two_true, ↓two_false, rW_cond, rO_guard, oS_some, oM_some, mkv, aggAt, Nat.reduceLeDiff, Nat.reduceSub, Nat.reduceMul, cond_true, cond_false, Option.bind_some, List.length_append, List.length_cons, List.length_nil, List.append_assoc, List.cons_append, List.nil_append, List.set_cons_zero, List.set_cons_succ, List.size_toArray, List.all_cons, List.all_nil, List.drop_zero, List.drop_succ_cons, List.take_succ_cons, List.take_zero, List.mem_cons, Prod.mk.injEq, List.not_mem_nil, implies_true, List.getElem?_toArray, List.getElem?_cons_zero, List.getElem?_cons_succ, List.getElem?_nil, Option.getD_some, Option.getD_none, Nat.reduceEqDiff, reduceIte, Nat.reduceAdd, List.map_toArray, List.map_cons, List.map_nil, Bool.false_eq_true, Nat.reduceBEq, Option.map_some, Option.map_none, reduceCtorEq, al45, ap43_43, bd45, bs163_2, fa45_0, fa45_1, ix24, ix43, ld3, ld43, ld45, ln24, ln43, sn43, sl43, st43, st45, h2, h3, h4, h6, h7, h48, h49, h50, (q.rd 0 rfl).2, hwi]
        refine ⟨(i + 1, a9, c9), by simp only; omega, rfl, hc', ?_, ?_⟩
        · rw [List.take_succ_eq_append_getElem hc', List.all_append, hall, List.all_cons, List.all_nil, hk, ← hrl, hb']; rfl
        · simp only
          rw [hstep, List.length_append]
          exact q'
    · have hil : i = da.length := Nat.le_antisymm hi (Nat.not_lt.1 (by simpa using hc))
      subst hil
      rw [List.take_length] at q hall
      have hpk := hpick hall
      obtain ⟨D, hD⟩ : ∃ D, pickD (sb.headD 0) rs da = D := ⟨_, rfl⟩
      have hlD : D.length ≤ 90000 := by
        have h1 := pickD_len (l := da) v2 hne hall
        rw [hrs, hD] at h1
        have h3 := sizeI_le (l := sb.tail)
        have h4 : da.length ≤ 300 := arrOk_len v1
        have : (D.length : Int) ≤ 300 * 300 := by
          rw [h1]
          rcases Int.lt_or_le (sizeI sb.tail) 0 with h5 | h5
          · have : (da.length : Int) * sizeI sb.tail ≤ 0 := Int.mul_nonpos_of_nonneg_of_nonpos (by omega) (by omega)
            omega
          · exact Int.mul_le_mul (by omega) h3 h5 (by omega)
        omega
      rw [hD] at q hpk
      rw [if_pos hall, hD]
      simp -implicitDefEqProofs only [kk0, kk1, kk2, kk3, rW_block, ↓two_true, ↓two_false, rW_cond, rO_guard, oS_some, oM_some, mkv, aggAt, Nat.reduceLeDiff, Nat.reduceSub, Nat.reduceMul, cond_true, cond_false, Option.bind_some, List.length_append, List.length_cons, List.length_nil, List.append_assoc, List.cons_append, List.nil_append, List.set_cons_zero, List.set_cons_succ, List.size_toArray, List.all_cons, List.all_nil, List.drop_zero, List.drop_succ_cons, List.take_succ_cons, List.take_zero, List.mem_cons, Prod.mk.injEq, List.not_mem_nil, implies_true, List.getElem?_toArray, List.getElem?_cons_zero, List.getElem?_cons_succ, List.getElem?_nil, Option.getD_some, Option.getD_none, Nat.reduceEqDiff, reduceIte, Nat.reduceAdd, List.map_toArray, List.map_cons, List.map_nil, Bool.false_eq_true, Nat.reduceBEq, Option.map_some, Option.map_none, reduceCtorEq, al45, ap43_43, bd45, bs163_2, fa45_0, fa45_1, ix24, ix43, ld3, ld43, ld45, ln24, ln43, sn43, sl43, st43, st45, h2, h3, h4, h6, h7, (q.rd 0 rfl).1]
      refine (implOk_ar (q.ar 2 1 rfl rfl (by omega) (by omega))).mono ?_
      rintro _ H6 ⟨rfl, he⟩
      have q := q.extd he
      have w := q.set 5 rfl [.slice xa S.length xc, .slice av D.length cv]
      simp -implicitDefEqProofs only [kk0, kk1, kk2, kk3, rW_block, ↓two_true, ↓two_false, rW_cond, rO_guard, oS_some, oM_some, mkv, aggAt, Nat.reduceLeDiff, Nat.reduceSub, Nat.reduceMul, cond_true, cond_false, Option.bind_some, List.length_append, List.length_cons, List.length_nil, List.append_assoc, List.cons_append, List.nil_append, List.set_cons_zero, List.set_cons_succ, List.size_toArray, List.all_cons, List.all_nil, List.drop_zero, List.drop_succ_cons, List.take_succ_cons, List.take_zero, List.mem_cons, Prod.mk.injEq, List.not_mem_nil, implies_true, List.getElem?_toArray, List.getElem?_cons_zero, List.getElem?_cons_succ, List.getElem?_nil, Option.getD_some, Option.getD_none, Nat.reduceEqDiff, reduceIte, Nat.reduceAdd, List.map_toArray, List.map_cons, List.map_nil, Bool.false_eq_true, Nat.reduceBEq, Option.map_some, Option.map_none, reduceCtorEq, al45, ap43_43, bd45, bs163_2, fa45_0, fa45_1, ix24, ix43, ld3, ld43, ld45, ln24, ln43, sn43, sl43, st43, st45, h2, h3, h4, h6, h7, (q.rd 0 rfl).1, (q.rd 5 rfl).2, rd_own (set_at (k' := ⟨[.slice none 0 0, .slice none 0 0], .own⟩) (q.ok 5 _ rfl)), (w.rd 5 rfl).1]
      rw [hpk]
      refine two_intro (fun u => ?_) (fun u => ?_)
      · rw [if_pos (by simpa using u)]
        exact Ans1.err (q.set 5 rfl _)
      · rw [if_neg (by simpa using u)]
        exact w.ans 2 1 (by decide) rfl rfl
theorem inB_idx {n x : Int} (hn : 0 ≤ n) : inB x (0 - n) (n - 1) = inB (idxP n x) 0 (n - 1) := by
  unfold inB idxP
  split <;> (rw [Bool.eq_iff_iff]; simp; omega)
theorem rem_idx {n x : Int} {k : Nat} (hk : idxP n x = k) (h : (k : Int) ≤ n - 1) (hx : inB (idxP n x) 0 (n - 1) = true) : (x + n).tmod n = k := by
  unfold idxP at hk
  split at hk
  · rw [hk]; exact Int.tmod_eq_of_lt (by omega) (by omega)
  · rw [hk, Int.tmod_eq_emod_of_nonneg (by omega), Int.add_emod_right]
    exact Int.emod_eq_of_lt (by omega) (by omega)

theorem specPick_ok {H : AH} {pa qa pb qb : Value} {sa da sb db : List Int} (a : AR H pa qa sa da) (b : AR H pb qb sb db) : CallsA Try.prog 45 #[.agg #[pa, qa], .agg #[pb, qb]] H fun r H' => Ans1 H H' r (pickR sa da sb db) := by
  have al := a.lim
  have bl := b.lim
  obtain ⟨a1, c1, a2, c2, rfl, rfl⟩ := a.o1
  obtain ⟨b1, d1, b2, d2, rfl, rfl⟩ := b.o1
  refine w45 ?_
  unfold k45
  have q := (LD.nil (H := H)).box [.slice a1 sa.length c1, .slice a2 da.length c2] |>.box [.slice b1 sb.length d1, .slice b2 db.length d2] |>.box [.slice none 0 0, .slice none 0 0] |>.box [.slice none 0 0, .slice none 0 0]
  simp -implicitDefEqProofs only [kk0, kk1, kk2, kk3, rW_block, ↓two_true, ↓two_false, rW_cond, rO_guard, oS_some, oM_some, mkv, aggAt, Nat.reduceLeDiff, Nat.reduceSub, Nat.reduceMul, cond_true, cond_false, Option.bind_some, List.length_append, List.length_cons, List.length_nil, List.append_assoc, List.cons_append, List.nil_append, List.set_cons_zero, List.set_cons_succ, List.size_toArray, List.all_cons, List.all_nil, List.drop_zero, List.drop_succ_cons, List.take_succ_cons, List.take_zero, List.mem_cons, Prod.mk.injEq, List.not_mem_nil, implies_true, List.getElem?_toArray, List.getElem?_cons_zero, List.getElem?_cons_succ, List.getElem?_nil, Option.getD_some, Option.getD_none, Nat.reduceEqDiff, reduceIte, Nat.reduceAdd, List.map_toArray, List.map_cons, List.map_nil, Bool.false_eq_true, Nat.reduceBEq, Option.map_some, Option.map_none, reduceCtorEq, al45, ap43_43, bd45, bs43_0, fa45_0, fa45_1, ix24, ix43, ld3, ld43, ld45, ln43, sn43, sl43, st43, st45] at q ⊢
  unfold pickR
  refine (specOk_ar (a.ext q.ext)).mono ?_
  rintro _ H1 ⟨rfl, he⟩
  have q := q.extd he
  clear he
  have e0 := (q.rd 0 rfl).1
  have e1 := (q.rd 1 rfl).2
  have e2 := fun k => rd_own (set_at (k' := ⟨k, .own⟩) (q.ok 1 _ rfl))
  have e3 := (q.rd 2 rfl).1
  have e4 := (q.rd 3 rfl).1
  simp -implicitDefEqProofs only [kk0, kk1, kk2, kk3, rW_block, ↓two_true, ↓two_false, rW_cond, rO_guard, oS_some, oM_some, mkv, aggAt, Nat.reduceLeDiff, Nat.reduceSub, Nat.reduceMul, cond_true, cond_false, Option.bind_some, List.length_append, List.length_cons, List.length_nil, List.append_assoc, List.cons_append, List.nil_append, List.set_cons_zero, List.set_cons_succ, List.size_toArray, List.all_cons, List.all_nil, List.drop_zero, List.drop_succ_cons, List.take_succ_cons, List.take_zero, List.mem_cons, Prod.mk.injEq, List.not_mem_nil, implies_true, List.getElem?_toArray, List.getElem?_cons_zero, List.getElem?_cons_succ, List.getElem?_nil, Option.getD_some, Option.getD_none, Nat.reduceEqDiff, reduceIte, Nat.reduceAdd, List.map_toArray, List.map_cons, List.map_nil, Bool.false_eq_true, Nat.reduceBEq, Option.map_some, Option.map_none, reduceCtorEq, al45, ap43_43, bd45, bs43_0, fa45_0, fa45_1, ix24, ix43, ld3, ld43, ld45, ln43, sn43, sl43, st43, st45, e0, e1, e2, e3, e4]
  refine two_intro (fun u => ?_) (fun u => ?_)
  · rw [show arrOk sa da = false by simpa using u]
    exact Ans1.err (q.set 1 rfl _)
  have v1 : arrOk sa da = true := by simpa using u
  rw [v1]
  clear u
  refine (specOk_ar (b.ext q.ext)).mono ?_
  rintro _ H2 ⟨rfl, he⟩
  have q := q.extd he
  clear he
  have e0 := (q.rd 0 rfl).1
  have e1 := (q.rd 1 rfl).2
  have e2 := fun k => rd_own (set_at (k' := ⟨k, .own⟩) (q.ok 1 _ rfl))
  have e3 := (q.rd 2 rfl).1
  have e4 := (q.rd 3 rfl).1
  simp -implicitDefEqProofs only [kk0, kk1, kk2, kk3, rW_block, ↓two_true, ↓two_false, rW_cond, rO_guard, oS_some, oM_some, mkv, aggAt, Nat.reduceLeDiff, Nat.reduceSub, Nat.reduceMul, cond_true, cond_false, Option.bind_some, List.length_append, List.length_cons, List.length_nil, List.append_assoc, List.cons_append, List.nil_append, List.set_cons_zero, List.set_cons_succ, List.size_toArray, List.all_cons, List.all_nil, List.drop_zero, List.drop_succ_cons, List.take_succ_cons, List.take_zero, List.mem_cons, Prod.mk.injEq, List.not_mem_nil, implies_true, List.getElem?_toArray, List.getElem?_cons_zero, List.getElem?_cons_succ, List.getElem?_nil, Option.getD_some, Option.getD_none, Nat.reduceEqDiff, reduceIte, Nat.reduceAdd, List.map_toArray, List.map_cons, List.map_nil, Bool.false_eq_true, Nat.reduceBEq, Option.map_some, Option.map_none, reduceCtorEq, al45, ap43_43, bd45, bs43_0, fa45_0, fa45_1, ix24, ix43, ld3, ld43, ld45, ln43, sn43, sl43, st43, st45, e0, e1, e2, e3, e4]
  refine two_intro (fun u => ?_) (fun u => ?_)
  · rw [show arrOk sb db = false by simpa using u]
    exact Ans1.err (q.set 1 rfl _)
  have v2 : arrOk sb db = true := by simpa using u
  rw [v2]
  clear u
  rw [if_pos (show (true && true) = true from rfl)]
  have w1 : IntKind.i64.wrap (↑sa.length + ↑sb.length) = ↑sa.length + ↑sb.length := IntWalk.i64_in _ (by have := a.l1; have := b.l1; omega)
  have w2 : IntKind.i64.wrap (↑sa.length + ↑sb.length - 1) = ↑sa.length + ↑sb.length - 1 := IntWalk.i64_in _ (by have := a.l1; have := b.l1; omega)
  have w3 : IntKind.i64.wrap (IntKind.i64.wrap (↑sa.length + ↑sb.length) - 1) = ↑sa.length + ↑sb.length - 1 := by rw [w1, w2]
  refine two_intro (fun u => ?_) (fun u => two_intro (fun u2 => ?_) (fun u2 => ?_))
  · rw [if_pos (show sb.length = 0 ∨ sa.length + sb.length - 1 > 3 from .inl (by have := beq_iff_eq.1 u; omega))]
    exact Ans1.err (q.set 1 rfl _)
  · have u2 := of_decide_eq_true u2
    rw [w3] at u2
    rw [if_pos (show sb.length = 0 ∨ sa.length + sb.length - 1 > 3 from .inr (by have := beq_eq_false_iff_ne.1 u; omega))]
    exact Ans1.err (q.set 1 rfl _)
  have u2 := of_decide_eq_false u2
  rw [w3] at u2
  have hr : ¬ (sb.length = 0 ∨ sa.length + sb.length - 1 > 3) := by have := beq_eq_false_iff_ne.1 u; omega
  have hne : sb ≠ [] := by rintro rfl; simp at hr
  rw [if_neg hr]
  have hsl : sa.length ≤ 3 ∧ sb.length ≤ 4 := by omega
  clear u u2
  have hpick := pick_ok (da := da) v1 v2 hne
  have hrl := rowsR_len' v2 hne
  have hrow := fun (i : Nat) r (h : (rowsR sb db)[i]? = some r) => (rowsR_row v2 h)
  obtain ⟨x, tl, hsb⟩ := List.exists_cons_of_ne_nil hne
  have v2' := v2
  rw [hsb] at v2'
  obtain ⟨n, rfl, hn3, hm0⟩ := arrOk_rows v2'
  have hhd : sb.headD 0 = n := by rw [hsb]; rfl
  have e5 : sb.length - 1 = tl.length := by rw [hsb]; simp
  have htl : sb.tail = tl := by rw [hsb]; rfl
  obtain ⟨b9, o9, cs9, ei9, hrd9, hc9⟩ := ixI0 (b.ext q.ext).os (x := (n : Int)) (by rw [hsb]; rfl)
  obtain ⟨S, hS⟩ : ∃ S, sa ++ tl = S := ⟨_, rfl⟩
  obtain ⟨rs, hrs⟩ : ∃ rs, rowsR sb db = rs := ⟨_, rfl⟩
  rw [htl, hS, hrs, hhd] at hpick
  rw [hrs] at hrow
  rw [hrs, hhd] at hrl
  rw [htl, hS, hrs, hhd]
  have hSl : S.length ≤ 7 := by rw [← hS]; simp; omega
  have hn1 : IntKind.i64.wrap ((n : Int) - 1) = (n : Int) - 1 := IntWalk.i64_in _ (by omega)
  have hn0 : IntKind.i64.wrap (0 - (n : Int)) = 0 - (n : Int) := IntWalk.i64_in _ (by omega)
  have hbx := (q.rd 2 rfl).1
  simp -implicitDefEqProofs only [kk0, kk1, kk2, kk3, ↓two_true, ↓two_false, rO_guard, oS_some, oM_some, mkv, aggAt, Nat.reduceLeDiff, Nat.reduceSub, Nat.reduceMul, cond_true, cond_false, Option.bind_some, List.length_append, List.length_cons, List.length_nil, List.append_assoc, List.cons_append, List.nil_append, List.set_cons_zero, List.set_cons_succ, List.size_toArray, List.all_cons, List.all_nil, List.drop_zero, List.drop_succ_cons, List.take_succ_cons, List.take_zero, List.mem_cons, Prod.mk.injEq, List.not_mem_nil, implies_true, List.getElem?_toArray, List.getElem?_cons_zero, List.getElem?_cons_succ, List.getElem?_nil, Option.getD_some, Option.getD_none, Nat.reduceEqDiff, reduceIte, Nat.reduceAdd, List.map_toArray, List.map_cons, List.map_nil, Bool.false_eq_true, Nat.reduceBEq, Option.map_some, Option.map_none, reduceCtorEq, al45, ap43_43, bd45, bs43_0, fa45_0, fa45_1, ix24, ix43, ld3, ld43, ld45, ln43, sn43, sl43, st43, st45, (q.rd 2 rfl).1, ei9, hrd9, hc9]
  refine rW_join (fun tm H' => tm 2 = .pointer (some ⟨H.length, 0, none⟩) ∧ tm 3 = .pointer (some ⟨H.length + 1, 0, none⟩) ∧ tm 4 = .pointer (some ⟨H.length + 2, 0, none⟩) ∧ tm 6 = .pointer (some ⟨H.length + 3, 0, none⟩) ∧ tm 7 = .int .i64 n ∧ H' = H2 ∧ (da.all fun x => inB (idxP n x) 0 (n - 1)) = true) ?_ ?_
  · simp -implicitDefEqProofs only [kk0, kk1, kk2, kk3, rW_block, ↓two_true, ↓two_false, rW_cond, rO_guard, oS_some, oM_some, mkv, aggAt, Nat.reduceLeDiff, Nat.reduceSub, Nat.reduceMul, cond_true, cond_false, Option.bind_some, List.length_append, List.length_cons, List.length_nil, List.append_assoc, List.cons_append, List.nil_append, List.set_cons_zero, List.set_cons_succ, List.size_toArray, List.all_cons, List.all_nil, List.drop_zero, List.drop_succ_cons, List.take_succ_cons, List.take_zero, List.mem_cons, Prod.mk.injEq, List.not_mem_nil, implies_true, List.getElem?_toArray, List.getElem?_cons_zero, List.getElem?_cons_succ, List.getElem?_nil, Option.getD_some, Option.getD_none, Nat.reduceEqDiff, reduceIte, Nat.reduceAdd, List.map_toArray, List.map_cons, List.map_nil, Bool.false_eq_true, Nat.reduceBEq, Option.map_some, Option.map_none, reduceCtorEq, al45, ap43_43, bd45, bs43_0, fa45_0, fa45_1, ix24, ix43, ld3, ld43, ld45, ln43, sn43, sl43, st43, st45]
    refine rW_loop (σ := Nat) (fun i tm H' => tm 2 = .pointer (some ⟨H.length, 0, none⟩) ∧ tm 3 = .pointer (some ⟨H.length + 1, 0, none⟩) ∧ tm 4 = .pointer (some ⟨H.length + 2, 0, none⟩) ∧ tm 6 = .pointer (some ⟨H.length + 3, 0, none⟩) ∧ tm 7 = .int .i64 n ∧ tm 8 = .int .i64 i ∧ H' = H2 ∧ i ≤ da.length ∧ ((da.take i).all fun x => inB (idxP n x) 0 (n - 1)) = true) (fun i => da.length - i) 0 ?_ ?_
    · exact ⟨rfl, rfl, rfl, rfl, rfl, rfl, rfl, Nat.zero_le _, rfl⟩
    · rintro i tm H' ⟨h2, h3, h4, h6, h7, h8, rfl, hi, hall⟩
      simp -implicitDefEqProofs only [kk0, kk1, kk2, kk3, rW_block, ↓two_true, ↓two_false, rW_cond, rO_guard, oS_some, oM_some, mkv, aggAt, Nat.reduceLeDiff, Nat.reduceSub, Nat.reduceMul, cond_true, cond_false, Option.bind_some, List.length_append, List.length_cons, List.length_nil, List.append_assoc, List.cons_append, List.nil_append, List.set_cons_zero, List.set_cons_succ, List.size_toArray, List.all_cons, List.all_nil, List.drop_zero, List.drop_succ_cons, List.take_succ_cons, List.take_zero, List.mem_cons, Prod.mk.injEq, List.not_mem_nil, implies_true, List.getElem?_toArray, List.getElem?_cons_zero, List.getElem?_cons_succ, List.getElem?_nil, Option.getD_some, Option.getD_none, Nat.reduceEqDiff, reduceIte, Nat.reduceAdd, List.map_toArray, List.map_cons, List.map_nil, Bool.false_eq_true, Nat.reduceBEq, Option.map_some, Option.map_none, reduceCtorEq, al45, ap43_43, bd45, bs43_0, fa45_0, fa45_1, ix24, ix43, ld3, ld43, ld45, ln43, sn43, sl43, st43, st45, h2, h3, h4, h6, h7, h8, (q.rd 3 rfl).1]
      refine two_intro (fun hc => ?_) (fun hc => ?_)
      · have hc' : i < da.length := by simpa using hc
        obtain ⟨b8, o8, cs8, ei8, hrd8, hc8⟩ := ixI (a.ext q.ext).od hc'
        simp -implicitDefEqProofs only [kk0, kk1, kk2, kk3, rW_block, ↓two_true, ↓two_false, rW_cond, rO_guard, oS_some, oM_some, mkv, aggAt, Nat.reduceLeDiff, Nat.reduceSub, Nat.reduceMul, cond_true, cond_false, Option.bind_some, List.length_append, List.length_cons, List.length_nil, List.append_assoc, List.cons_append, List.nil_append, List.set_cons_zero, List.set_cons_succ, List.size_toArray, List.all_cons, List.all_nil, List.drop_zero, List.drop_succ_cons, List.take_succ_cons, List.take_zero, List.mem_cons, Prod.mk.injEq, List.not_mem_nil, implies_true, List.getElem?_toArray, List.getElem?_cons_zero, List.getElem?_cons_succ, List.getElem?_nil, Option.getD_some, Option.getD_none, Nat.reduceEqDiff, reduceIte, Nat.reduceAdd, List.map_toArray, List.map_cons, List.map_nil, Bool.false_eq_true, Nat.reduceBEq, Option.map_some, Option.map_none, reduceCtorEq, al45, ap43_43, bd45, bs43_0, fa45_0, fa45_1, ix24, ix43, ld3, ld43, ld45, ln43, sn43, sl43, st43, st45, h2, h3, h4, h6, h7, h8, (q.rd 3 rfl).1, ei8, hrd8, hc8, hn0, hn1, l1In_eq, inB_idx (show 0 ≤ (n : Int) by omega), (q.rd 0 rfl).1, (q.rd 1 rfl).2, rd_own (set_at (k' := ⟨[.slice none 0 0, .slice none 0 0], .own⟩) (q.ok 1 _ rfl)), IntWalk.i64_in (↑i + 1) (by omega)]
        refine two_intro (fun hb => ?_) (fun hb => ?_)
        · rw [if_neg (by rw [Bool.not_eq_true, all_take_false (f := fun x => inB (idxP n x) 0 (n - 1)) hc' (by simpa using hb)])]
          exact Ans1.err (q.set 1 rfl _)
        · refine ⟨i + 1, by omega, by simp, hc', ?_⟩
          rw [List.take_succ_eq_append_getElem hc', List.all_append, hall, List.all_cons, List.all_nil, show inB (idxP n da[i]) 0 (n - 1) = true by simpa using hb]; rfl
      · rw [List.take_of_length_le (by have : ¬ i < da.length := by simpa using hc
                                       omega)] at hall
        exact hall
  rintro tm H3 ⟨h2, h3, h4, h6, h7, rfl, hall⟩
  rw [if_pos hall]
  have qo := q
  have q := q.lit (cs := []) (n := 0) [] rfl rfl
  obtain ⟨t1, y1, ev1, hv1, -⟩ := IntRow.sl (P := Try.prog) (t := 43) (e := 3) (lo := some (.int .i64 1)) (hi := none) (x := 1) (y := sb.length) Try.underlying43 (by kernel_rfl) (b.ext qo.ext).os rfl rfl (by rw [hsb]; simp) (Nat.le_refl _)
  have e1 : (sb.drop 1).take (sb.length - 1) = tl := by rw [hsb]; simp
  rw [e1, e5] at hv1
  rw [e5] at ev1
  have fo1 := (qo.rd 3 rfl).1
  have fo2 := (qo.rd 2 rfl).1
  simp -implicitDefEqProofs only [kk0, kk1, kk2, kk3, rW_block, ↓two_true, ↓two_false, rW_cond, rO_guard, oS_some, oM_some, mkv, aggAt, Nat.reduceLeDiff, Nat.reduceSub, Nat.reduceMul, cond_true, cond_false, Option.bind_some, List.length_append, List.length_cons, List.length_nil, List.append_assoc, List.cons_append, List.nil_append, List.set_cons_zero, List.set_cons_succ, List.size_toArray, List.all_cons, List.all_nil, List.drop_zero, List.drop_succ_cons, List.take_succ_cons, List.take_zero, List.mem_cons, Prod.mk.injEq, List.not_mem_nil, implies_true, List.getElem?_toArray, List.getElem?_cons_zero, List.getElem?_cons_succ, List.getElem?_nil, Option.getD_some, Option.getD_none, Nat.reduceEqDiff, reduceIte, Nat.reduceAdd, List.map_toArray, List.map_cons, List.map_nil, Bool.false_eq_true, Nat.reduceBEq, Option.map_some, Option.map_none, reduceCtorEq, al45, ap43_43, bd45, bs43_0, fa45_0, fa45_1, ix24, ix43, ld3, ld43, ld45, ln43, sn43, sl43, st43, st45, h2, h3, h4, h6, h7, (q.rd 4 rfl).1, fo1, fo2]
  refine oA_own (q.own 0 rfl) (a.ext q.ext).os (by simp; omega) fun a9 c9 H4 o9 x9 => ?_
  have q := q.push 0 rfl o9 x9
  have hv1 : IntRow H4 (.slice t1 tl.length y1) tl := by
    obtain ⟨t1', y1', ev1', hv1', -⟩ := IntRow.sl (P := Try.prog) (t := 43) (e := 3) (lo := some (.int .i64 1)) (hi := none) (x := 1) (y := sb.length) Try.underlying43 (by kernel_rfl) (b.ext q.ext).os rfl rfl (by rw [hsb]; simp) (Nat.le_refl _)
    rw [e1, e5] at hv1'
    rw [e5, ev1] at ev1'
    injection ev1' with e; injection e with e1 _ e3
    rw [e1, e3]; exact hv1'
  simp only [List.length_nil, Nat.zero_add, List.nil_append, List.set_cons_zero] at q ⊢
  simp -implicitDefEqProofs only [kk0, kk1, kk2, kk3, rW_block, ↓two_true, ↓two_false, rW_cond, rO_guard, oS_some, oM_some, mkv, aggAt, Nat.reduceLeDiff, Nat.reduceSub, Nat.reduceMul, cond_true, cond_false, Option.bind_some, List.length_append, List.length_cons, List.length_nil, List.append_assoc, List.cons_append, List.nil_append, List.set_cons_zero, List.set_cons_succ, List.size_toArray, List.all_cons, List.all_nil, List.drop_zero, List.drop_succ_cons, List.take_succ_cons, List.take_zero, List.mem_cons, Prod.mk.injEq, List.not_mem_nil, implies_true, List.getElem?_toArray, List.getElem?_cons_zero, List.getElem?_cons_succ, List.getElem?_nil, Option.getD_some, Option.getD_none, Nat.reduceEqDiff, reduceIte, Nat.reduceAdd, List.map_toArray, List.map_cons, List.map_nil, Bool.false_eq_true, Nat.reduceBEq, Option.map_some, Option.map_none, reduceCtorEq, al45, ap43_43, bd45, bs43_0, fa45_0, fa45_1, ix24, ix43, ld3, ld43, ld45, ln43, sn43, sl43, st43, st45, h2, h3, h4, h6, h7, (q.rd 3 rfl).1, fo1, fo2, ev1]
  refine oA_own (q.own 0 rfl) hv1 (by omega) fun xa xc H5 o10 x10 => ?_
  have q := q.push 0 rfl o10 x10
  have e7 : sa.length + tl.length = S.length := by rw [← hS, List.length_append]
  rw [hS, e7] at q
  rw [e7]
  have q := (q.nrow (v := .slice none 0 0) (l := []) ⟨OwnRow.nil, fun b hb => by simp [blkOf] at hb⟩ ext_refl).box [.slice xa S.length xc, .slice none 0 0]
  simp only [List.set_cons_zero] at q
  have e8 := (q.rd 5 rfl).1
  simp -implicitDefEqProofs only [kk0, kk1, kk2, kk3, rW_block, ↓two_true, ↓two_false, rW_cond, rO_guard, oS_some, oM_some, mkv, aggAt, Nat.reduceLeDiff, Nat.reduceSub, Nat.reduceMul, cond_true, cond_false, Option.bind_some, List.length_append, List.length_cons, List.length_nil, List.append_assoc, List.cons_append, List.nil_append, List.set_cons_zero, List.set_cons_succ, List.size_toArray, List.all_cons, List.all_nil, List.drop_zero, List.drop_succ_cons, List.take_succ_cons, List.take_zero, List.mem_cons, Prod.mk.injEq, List.not_mem_nil, implies_true, List.getElem?_toArray, List.getElem?_cons_zero, List.getElem?_cons_succ, List.getElem?_nil, Option.getD_some, Option.getD_none, Nat.reduceEqDiff, reduceIte, Nat.reduceAdd, List.map_toArray, List.map_cons, List.map_nil, Bool.false_eq_true, Nat.reduceBEq, Option.map_some, Option.map_none, reduceCtorEq, al45, ap43_43, bd45, bs43_0, fa45_0, fa45_1, ix24, ix43, ld3, ld43, ld45, ln43, sn43, sl43, st43, st45, h2, h3, h4, h6, h7, e8]
  refine (l3Rows_ok (b.ext q.ext) v2 hne).mono ?_
  rintro v H6 ⟨⟨ys, hnw, hcv⟩, he⟩
  rw [hrs] at hnw hcv
  have q := q.ncmp hnw hcv he
  obtain ⟨ra, rc, rfl, -⟩ := (q.rows 0 rfl).1
  have so := fun Φ => (specShapeOk_ok (q.own 3 rfl).int (by omega)).eq0 (Φ := Φ)
  clear hnw hcv he
  simp -implicitDefEqProofs only [kk0, kk1, kk2, kk3, rW_block, ↓two_true, ↓two_false, rW_cond, rO_guard, oS_some, oM_some, mkv, aggAt, Nat.reduceLeDiff, Nat.reduceSub, Nat.reduceMul, cond_true, cond_false, Option.bind_some, List.length_append, List.length_cons, List.length_nil, List.append_assoc, List.cons_append, List.nil_append, List.set_cons_zero, List.set_cons_succ, List.size_toArray, List.all_cons, List.all_nil, List.drop_zero, List.drop_succ_cons, List.take_succ_cons, List.take_zero, List.mem_cons, Prod.mk.injEq, List.not_mem_nil, implies_true, List.getElem?_toArray, List.getElem?_cons_zero, List.getElem?_cons_succ, List.getElem?_nil, Option.getD_some, Option.getD_none, Nat.reduceEqDiff, reduceIte, Nat.reduceAdd, List.map_toArray, List.map_cons, List.map_nil, Bool.false_eq_true, Nat.reduceBEq, Option.map_some, Option.map_none, reduceCtorEq, al45, ap43_43, bd45, bs43_0, fa45_0, fa45_1, ix24, ix43, ld3, ld43, ld45, ln43, sn43, sl43, st43, st45, h2, h3, h4, h6, h7, (q.rd 1 rfl).1, (q.rd 4 rfl).1, (q.rd 5 rfl).2, rd_own (set_at (k' := ⟨[.slice none 0 0, .slice none 0 0], .own⟩) (q.ok 5 _ rfl)), so]
  refine two_intro (fun u => ?_) (fun u => ?_)
  · rw [if_pos (by simpa using u)]
    exact Ans1.err (q.set 5 rfl _)
  rw [if_neg (by simpa using u)]
  refine rW_loop (σ := Nat × Option Addr × Nat) (fun x tm H' => tm 2 = .pointer (some ⟨H.length, 0, none⟩) ∧ tm 3 = .pointer (some ⟨H.length + 1, 0, none⟩) ∧ tm 4 = .pointer (some ⟨H.length + 2, 0, none⟩) ∧ tm 7 = .int .i64 n ∧ tm 9 = .pointer (some ⟨H5.length, 0, none⟩) ∧ tm 10 = .slice ra rs.length rc ∧ tm 11 = .int .i64 x.1 ∧ x.1 ≤ da.length ∧ LD none H H' [.cmp (.row (.slice ra rs.length rc) [.r, .r] rs.length ys) (rowsV rs), .box H5.length [.slice xa S.length xc, .slice x.2.1 (pickD n rs (da.take x.1)).length x.2.2], .row (.slice x.2.1 (pickD n rs (da.take x.1)).length x.2.2) (pickD n rs (da.take x.1)), .row (.slice xa S.length xc) S, .box (H.length + 3) [.slice none 0 0, .slice none 0 0], .box (H.length + 2) [.slice none 0 0, .slice none 0 0], .box (H.length + 1) [.slice b1 sb.length d1, .slice b2 db.length d2], .box H.length [.slice a1 sa.length c1, .slice a2 da.length c2]]) (fun x => da.length - x.1) (0, none, 0) ?_ ?_
  · exact ⟨h2, h3, h4, h7, rfl, rfl, rfl, Nat.zero_le _, q⟩
  · rintro ⟨i, av, cv⟩ tm H7 ⟨h2, h3, h4, h7, h9, h10, h11, hi, q⟩
    simp only at h11 hi q
    simp -implicitDefEqProofs only [kk0, kk1, kk2, kk3, rW_block, ↓two_true, ↓two_false, rW_cond, rO_guard, oS_some, oM_some, mkv, aggAt, Nat.reduceLeDiff, Nat.reduceSub, Nat.reduceMul, cond_true, cond_false, Option.bind_some, List.length_append, List.length_cons, List.length_nil, List.append_assoc, List.cons_append, List.nil_append, List.set_cons_zero, List.set_cons_succ, List.size_toArray, List.all_cons, List.all_nil, List.drop_zero, List.drop_succ_cons, List.take_succ_cons, List.take_zero, List.mem_cons, Prod.mk.injEq, List.not_mem_nil, implies_true, List.getElem?_toArray, List.getElem?_cons_zero, List.getElem?_cons_succ, List.getElem?_nil, Option.getD_some, Option.getD_none, Nat.reduceEqDiff, reduceIte, Nat.reduceAdd, List.map_toArray, List.map_cons, List.map_nil, Bool.false_eq_true, Nat.reduceBEq, Option.map_some, Option.map_none, reduceCtorEq, al45, ap43_43, bd45, bs43_0, fa45_0, fa45_1, ix24, ix43, ld3, ld43, ld45, ln43, sn43, sl43, st43, st45, h2, h3, h4, h7, h9, h10, h11, (q.rd 7 rfl).1]
    refine two_intro (fun hc => ?_) (fun hc => ?_)
    · have hc' : i < da.length := by simpa using hc
      obtain ⟨b8, o8, cs8, ei8, hrd8, hc8⟩ := ixI (a.ext q.ext).od hc'
      have hx := List.all_eq_true.1 hall da[i] (List.getElem_mem hc')
      have hx2 : 0 ≤ idxP n da[i] ∧ idxP n da[i] ≤ (n : Int) - 1 := by simpa [inB] using hx
      obtain ⟨kn, hk⟩ : ∃ kn : Nat, idxP n da[i] = kn := ⟨(idxP n da[i]).toNat, by omega⟩
      have hkn : kn < rs.length := by omega
      have hrem := rem_idx (n := (n : Int)) hk (by omega) hx
      have hnum : -1000000000000 ≤ da[i] ∧ da[i] ≤ 1000000000000 := by
        unfold arrOk at v1
        simp only [Bool.and_eq_true] at v1
        have := List.all_eq_true.1 v1.2 da[i] (List.getElem_mem hc')
        simpa [numOk, inB] using this
      have hwa : IntKind.i64.wrap (da[i] + (n : Int)) = da[i] + (n : Int) := IntWalk.i64_in _ (by omega)
      have hn0' : (n : Int) ≠ 0 := by omega
      obtain ⟨b6, o6, cs6, p6, q6, ei6, hr6, hp6, hq6, -, hi6⟩ := ixR (q.rows 0 rfl).1 hkn
      obtain ⟨t6, s6, e6, -⟩ := hi6.op
      subst e6
      have hrl8 := (hrow kn rs[kn] (List.getElem?_eq_getElem hkn)).2.2.2.2
      have hstep : pickD n rs (da.take (i + 1)) = pickD n rs (da.take i) ++ rs[kn].2 := by
        rw [List.take_succ_eq_append_getElem hc', pickD_snoc, hk, Int.toNat_natCast, List.getElem?_eq_getElem hkn, Option.getD_some]
      have hlD : (pickD n rs (da.take i)).length ≤ 90000 := by
        have hall' : ((da.take i).all fun x => inB (idxP (sb.headD 0) x) 0 (sb.headD 0 - 1)) = true := by
          rw [hhd]; exact List.all_eq_true.2 fun y hy => List.all_eq_true.1 hall y (List.mem_of_mem_take hy)
        have h1 := pickD_len (l := da.take i) v2 hne hall'
        rw [hrs, hhd] at h1
        have h3 := sizeI_le (l := sb.tail)
        have h4 : (da.take i).length ≤ 300 := by have := arrOk_len v1; simp; omega
        have : ((pickD n rs (da.take i)).length : Int) ≤ 300 * 300 := by
          rw [h1]
          rcases Int.lt_or_le (sizeI sb.tail) 0 with h5 | h5
          · have : ((da.take i).length : Int) * sizeI sb.tail ≤ 0 := Int.mul_nonpos_of_nonneg_of_nonpos (by omega) (by omega)
            omega
          · exact Int.mul_le_mul (by omega) h3 h5 (by omega)
        omega
      simp -implicitDefEqProofs only [kk0, kk1, kk2, kk3, rW_block, ↓two_true, ↓two_false, rW_cond, rO_guard, oS_some, oM_some, mkv, aggAt, Nat.reduceLeDiff, Nat.reduceSub, Nat.reduceMul, cond_true, cond_false, Option.bind_some, List.length_append, List.length_cons, List.length_nil, List.append_assoc, List.cons_append, List.nil_append, List.set_cons_zero, List.set_cons_succ, List.size_toArray, List.all_cons, List.all_nil, List.drop_zero, List.drop_succ_cons, List.take_succ_cons, List.take_zero, List.mem_cons, Prod.mk.injEq, List.not_mem_nil, implies_true, List.getElem?_toArray, List.getElem?_cons_zero, List.getElem?_cons_succ, List.getElem?_nil, Option.getD_some, Option.getD_none, Nat.reduceEqDiff, reduceIte, Nat.reduceAdd, List.map_toArray, List.map_cons, List.map_nil, Bool.false_eq_true, Nat.reduceBEq, Option.map_some, Option.map_none, reduceCtorEq, al45, ap43_43, bd45, bs43_0, fa45_0, fa45_1, ix24, ix43, ld3, ld43, ld45, ln43, sn43, sl43, st43, st45, h2, h3, h4, h7, h9, h10, h11, (q.rd 1 rfl).1, (q.rd 7 rfl).1, ei8, hrd8, hc8, hwa, bin_rem hn0', hrem, ei6, hr6, hq6]
      refine oA_own (q.own 2 rfl) hi6 (by omega) fun a9 c9 H8 o9 x9 => ?_
      have q := q.push 2 rfl o9 x9
      have q' := q.set 1 rfl [.slice xa S.length xc, .slice a9 ((pickD n rs (da.take i)).length + rs[kn].2.length) c9]
      simp -implicitDefEqProofs only [kk0, kk1, kk2, kk3, rW_block, ↓two_true, ↓two_false, rW_cond, rO_guard, oS_some, oM_some, mkv, aggAt, Nat.reduceLeDiff, Nat.reduceSub, Nat.reduceMul, cond_true, cond_false, Option.bind_some, List.length_append, List.length_cons, List.length_nil, List.append_assoc, List.cons_append, List.nil_append, List.set_cons_zero, List.set_cons_succ, List.size_toArray, List.all_cons, List.all_nil, List.drop_zero, List.drop_succ_cons, List.take_succ_cons, List.take_zero, List.mem_cons, Prod.mk.injEq, List.not_mem_nil, implies_true, List.getElem?_toArray, List.getElem?_cons_zero, List.getElem?_cons_succ, List.getElem?_nil, Option.getD_some, Option.getD_none, Nat.reduceEqDiff, reduceIte, Nat.reduceAdd, List.map_toArray, List.map_cons, List.map_nil, Bool.false_eq_true, Nat.reduceBEq, Option.map_some, Option.map_none, reduceCtorEq, al45, ap43_43, bd45, bs43_0, fa45_0, fa45_1, ix24, ix43, ld3, ld43, ld45, ln43, sn43, sl43, st43, st45, h2, h3, h4, h7, h9, h10, h11, (q.rd 1 rfl).2, IntWalk.i64_in (↑i + 1) (by omega)]
      refine ⟨(i + 1, a9, c9), by simp only; omega, by simp, hc', ?_⟩
      simp only
      rw [hstep, List.length_append]
      exact q'
    · have hil : i = da.length := Nat.le_antisymm hi (Nat.not_lt.1 (by simpa using hc))
      subst hil
      rw [List.take_length] at q
      have w := q.set 5 rfl [.slice xa S.length xc, .slice av (pickD n rs da).length cv]
      simp -implicitDefEqProofs only [kk0, kk1, kk2, kk3, rW_block, ↓two_true, ↓two_false, rW_cond, rO_guard, oS_some, oM_some, mkv, aggAt, Nat.reduceLeDiff, Nat.reduceSub, Nat.reduceMul, cond_true, cond_false, Option.bind_some, List.length_append, List.length_cons, List.length_nil, List.append_assoc, List.cons_append, List.nil_append, List.set_cons_zero, List.set_cons_succ, List.size_toArray, List.all_cons, List.all_nil, List.drop_zero, List.drop_succ_cons, List.take_succ_cons, List.take_zero, List.mem_cons, Prod.mk.injEq, List.not_mem_nil, implies_true, List.getElem?_toArray, List.getElem?_cons_zero, List.getElem?_cons_succ, List.getElem?_nil, Option.getD_some, Option.getD_none, Nat.reduceEqDiff, reduceIte, Nat.reduceAdd, List.map_toArray, List.map_cons, List.map_nil, Bool.false_eq_true, Nat.reduceBEq, Option.map_some, Option.map_none, reduceCtorEq, al45, ap43_43, bd45, bs43_0, fa45_0, fa45_1, ix24, ix43, ld3, ld43, ld45, ln43, sn43, sl43, st43, st45, h2, h3, h4, h7, h9, h10, h11, (q.rd 1 rfl).1, (q.rd 5 rfl).2, (w.rd 5 rfl).1]
      exact w.ans 3 2 (by decide) rfl rfl

theorem pickR_err {sa da sb db : List Int} (h : (pickR sa da sb db).2 ≠ 0) : (pickR sa da sb db).1.2 = [] := by
  unfold pickR at h ⊢
  repeat' split
  all_goals first | rfl | skip
  rename_i h1 h2 h3 h4
  rw [if_pos h1, if_neg h2, if_pos h3, if_neg h4] at h
  exact absurd rfl h
theorem pickR_ok {sa da sb db : List Int} (h : (pickR sa da sb db).2 = 0) : arrOk sa da = true ∧ arrOk sb db = true ∧ sb ≠ [] ∧ sa.length + sb.length ≤ 4 ∧ (da.all fun x => inB (idxP (sb.headD 0) x) 0 (sb.headD 0 - 1)) = true ∧ 0 ≤ sizeI (sa ++ sb.tail) ∧
    pickR sa da sb db = ((sa ++ sb.tail, pickD (sb.headD 0) (rowsR sb db) da), 0) := by
  unfold pickR at h ⊢
  split
  · rename_i h1
    rw [if_pos h1] at h
    split
    · rename_i h2; rw [if_pos h2] at h; exact absurd h (by decide)
    · rename_i h2
      rw [if_neg h2] at h
      split
      · rename_i h3
        rw [if_pos h3] at h
        split
        · rename_i h4; rw [if_pos h4] at h; exact absurd h (by decide)
        · rename_i h4
          simp only [Bool.and_eq_true] at h1
          refine ⟨h1.1, h1.2, ?_, by omega, h3, by omega, rfl⟩
          rintro rfl
          exact h2 (.inl rfl)
      · rename_i h3; rw [if_neg h3] at h; exact absurd h (by decide)
  · rename_i h1; rw [if_neg h1] at h; exact absurd h (by decide)

set_option maxHeartbeats 4000000 in
theorem law8 : LawA Try.prog 8 [41] := by
  intro H vs hro h
  obtain ⟨v, vs, rfl, hv, h2⟩ := h.cons
  obtain rfl := h2.nil
  obtain ⟨a0, n0, c0, rfl, hb⟩ := rpBytes hv Try.underlying41 Try.underlying5 (by kernel_rfl)
  clear hv h2 hro
  refine w8 ?_
  unfold k8
  simp -implicitDefEqProofs only [kk0, kk1, kk2, kk3, rW_block, ↓two_true, ↓two_false, rW_cond, rO_guard, oS_some, oM_some, mkv, aggAt, Nat.reduceLeDiff, Nat.reduceSub, Nat.reduceMul, cond_true, cond_false, Option.bind_some, List.length_append, List.length_cons, List.length_nil, List.append_assoc, List.cons_append, List.nil_append, List.set_cons_zero, List.set_cons_succ, List.size_toArray, List.all_cons, List.all_nil, List.drop_zero, List.drop_succ_cons, List.take_succ_cons, List.take_zero, List.mem_cons, Prod.mk.injEq, List.not_mem_nil, implies_true, List.getElem?_toArray, List.getElem?_cons_zero, List.getElem?_cons_succ, List.getElem?_nil, Option.getD_some, Option.getD_none, Nat.reduceEqDiff, reduceIte, Nat.reduceAdd, List.map_toArray, List.map_cons, List.map_nil, Bool.false_eq_true, Nat.reduceBEq, Option.map_some, Option.map_none, reduceCtorEq, al45, ap43_43, bs43_0, fa45_0, fa45_1, ix24, ix43, ld3, ld43, ld45, ln24, ln43, st45, big_eq]
  refine two_intro (fun h => trivial) (fun h => ?_)
  have hn0 : n0 ≤ 1048576 := by simp at h; omega
  clear h
  refine (DrawPick_ok ⟨a0, n0, c0, rfl, hn0, hb⟩).mono ?_
  rintro _ H1 ⟨p1, p2, sa, da, p3, p4, sb, db, rfl, q, l1, l2, l3, l4⟩
  obtain ⟨a1, c1, rfl⟩ := (q.own 0 rfl).isSlice
  obtain ⟨a2, c2, rfl⟩ := (q.own 1 rfl).isSlice
  obtain ⟨b1, d1, rfl⟩ := (q.own 2 rfl).isSlice
  obtain ⟨b2, d2, rfl⟩ := (q.own 3 rfl).isSlice
  have q := q.box [.slice a1 sa.length c1, .slice a2 da.length c2] |>.box [.slice b1 sb.length d1, .slice b2 db.length d2]
  simp -implicitDefEqProofs only [kk0, kk1, kk2, kk3, rW_block, ↓two_true, ↓two_false, rW_cond, rO_guard, oS_some, oM_some, mkv, aggAt, Nat.reduceLeDiff, Nat.reduceSub, Nat.reduceMul, cond_true, cond_false, Option.bind_some, List.length_append, List.length_cons, List.length_nil, List.append_assoc, List.cons_append, List.nil_append, List.set_cons_zero, List.set_cons_succ, List.size_toArray, List.all_cons, List.all_nil, List.drop_zero, List.drop_succ_cons, List.take_succ_cons, List.take_zero, List.mem_cons, Prod.mk.injEq, List.not_mem_nil, implies_true, List.getElem?_toArray, List.getElem?_cons_zero, List.getElem?_cons_succ, List.getElem?_nil, Option.getD_some, Option.getD_none, Nat.reduceEqDiff, reduceIte, Nat.reduceAdd, List.map_toArray, List.map_cons, List.map_nil, Bool.false_eq_true, Nat.reduceBEq, Option.map_some, Option.map_none, reduceCtorEq, al45, ap43_43, bs43_0, fa45_0, fa45_1, ix24, ix43, ld3, ld43, ld45, ln24, ln43, st45] at q ⊢
  try simp -implicitDefEqProofs only [kk0, kk1, kk2, kk3, rW_block, ↓two_true, ↓two_false, rW_cond, rO_guard, oS_some, oM_some, mkv, aggAt, Nat.reduceLeDiff, Nat.reduceSub, Nat.reduceMul, cond_true, cond_false, Option.bind_some, List.length_append, List.length_cons, List.length_nil, List.append_assoc, List.cons_append, List.nil_append, List.set_cons_zero, List.set_cons_succ, List.size_toArray, List.all_cons, List.all_nil, List.drop_zero, List.drop_succ_cons, List.take_succ_cons, List.take_zero, List.mem_cons, Prod.mk.injEq, List.not_mem_nil, implies_true, List.getElem?_toArray, List.getElem?_cons_zero, List.getElem?_cons_succ, List.getElem?_nil, Option.getD_some, Option.getD_none, Nat.reduceEqDiff, reduceIte, Nat.reduceAdd, List.map_toArray, List.map_cons, List.map_nil, Bool.false_eq_true, Nat.reduceBEq, Option.map_some, Option.map_none, reduceCtorEq, al45, ap43_43, bs43_0, fa45_0, fa45_1, ix24, ix43, ld3, ld43, ld45, ln24, ln43, st45, (q.rd 0 rfl).1, (q.rd 1 rfl).1]
  refine (implPick_ok (q.ar 2 3 rfl rfl l1 l2) (q.ar 4 5 rfl rfl l3 l4)).mono ?_
  rintro _ H2 ⟨p, p', rfl, g⟩
  obtain ⟨R, hR⟩ : ∃ R, pickR sa da sb db = R := ⟨_, rfl⟩
  rw [hR] at g ⊢
  obtain ⟨r1, e1, rfl⟩ := (g.own 0 rfl).isSlice
  obtain ⟨r2, e2, rfl⟩ := (g.own 1 rfl).isSlice
  have q := (q.join g).box [.slice r1 R.1.1.length e1, .slice r2 R.1.2.length e2]
  clear g
  simp -implicitDefEqProofs only [kk0, kk1, kk2, kk3, rW_block, ↓two_true, ↓two_false, rW_cond, rO_guard, oS_some, oM_some, mkv, aggAt, Nat.reduceLeDiff, Nat.reduceSub, Nat.reduceMul, cond_true, cond_false, Option.bind_some, List.length_append, List.length_cons, List.length_nil, List.append_assoc, List.cons_append, List.nil_append, List.set_cons_zero, List.set_cons_succ, List.size_toArray, List.all_cons, List.all_nil, List.drop_zero, List.drop_succ_cons, List.take_succ_cons, List.take_zero, List.mem_cons, Prod.mk.injEq, List.not_mem_nil, implies_true, List.getElem?_toArray, List.getElem?_cons_zero, List.getElem?_cons_succ, List.getElem?_nil, Option.getD_some, Option.getD_none, Nat.reduceEqDiff, reduceIte, Nat.reduceAdd, List.map_toArray, List.map_cons, List.map_nil, Bool.false_eq_true, Nat.reduceBEq, Option.map_some, Option.map_none, reduceCtorEq, al45, ap43_43, bs43_0, fa45_0, fa45_1, ix24, ix43, ld3, ld43, ld45, ln24, ln43, st45, (q.rd 3 rfl).1, (q.rd 4 rfl).1]
  refine (specPick_ok (q.ar 5 6 rfl rfl l1 l2) (q.ar 7 8 rfl rfl l3 l4)).mono ?_
  rintro _ H3 ⟨p, p', rfl, g⟩
  rw [hR] at g ⊢
  obtain ⟨s1, f1, rfl⟩ := (g.own 0 rfl).isSlice
  obtain ⟨s2, f2, rfl⟩ := (g.own 1 rfl).isSlice
  have q := (q.join g).box [.slice s1 R.1.1.length f1, .slice s2 R.1.2.length f2]
  clear g
  simp -implicitDefEqProofs only [kk0, kk1, kk2, kk3, rW_block, ↓two_true, ↓two_false, rW_cond, rO_guard, oS_some, oM_some, mkv, aggAt, Nat.reduceLeDiff, Nat.reduceSub, Nat.reduceMul, cond_true, cond_false, Option.bind_some, List.length_append, List.length_cons, List.length_nil, List.append_assoc, List.cons_append, List.nil_append, List.set_cons_zero, List.set_cons_succ, List.size_toArray, List.all_cons, List.all_nil, List.drop_zero, List.drop_succ_cons, List.take_succ_cons, List.take_zero, List.mem_cons, Prod.mk.injEq, List.not_mem_nil, implies_true, List.getElem?_toArray, List.getElem?_cons_zero, List.getElem?_cons_succ, List.getElem?_nil, Option.getD_some, Option.getD_none, Nat.reduceEqDiff, reduceIte, Nat.reduceAdd, List.map_toArray, List.map_cons, List.map_nil, Bool.false_eq_true, Nat.reduceBEq, Option.map_some, Option.map_none, reduceCtorEq, al45, ap43_43, bs43_0, fa45_0, fa45_1, ix24, ix43, ld3, ld43, ld45, ln24, ln43, st45, (q.rd 3 rfl).1, bne_self_eq_false, two_false]
  refine two_intro (fun h => ?_) (fun h => ?_)
  · have h0 : R.2 ≠ 0 := by simpa using h
    subst hR
    rw [pickR_err h0]
    rfl
  have h0 : R.2 = 0 := by simpa using h
  clear h
  subst hR
  obtain ⟨oa, ob, hne, hsl, hall, hsz, hR⟩ := pickR_ok h0
  have hpk := pick_ok oa ob hne hall
  rw [hR] at q ⊢
  obtain ⟨S, hS⟩ : ∃ S, sa ++ sb.tail = S := ⟨_, rfl⟩
  have hSl : (S.length : Int) = sa.length + sb.length - 1 := by
    have : 0 < sb.length := List.length_pos_iff.2 hne
    rw [← hS, List.length_append, List.length_tail]; omega
  obtain ⟨rs, hrs⟩ : ∃ rs, rowsR sb db = rs := ⟨_, rfl⟩
  have hrl := rowsR_len' ob hne
  have hrow := fun (i : Nat) r (h : (rowsR sb db)[i]? = some r) => (rowsR_row ob h)
  have hplen := fun (l : List Int) h => pickD_len (l := l) ob hne h
  have hra : rowsA sb db = rs := by unfold rowsA; rw [ob, if_pos rfl]; exact hrs
  rw [hrs] at hrl hrow hplen
  rw [hS, hrs] at q hpk ⊢
  rw [hS] at hsz
  obtain ⟨n, hn⟩ : ∃ n, sb.headD 0 = n := ⟨_, rfl⟩
  rw [hn] at q hpk hrl hall hplen ⊢
  obtain ⟨D, hD⟩ : ∃ D, pickD n rs da = D := ⟨_, rfl⟩
  have hDl : D.length ≤ 90000 ∧ ∀ i, (pickD n rs (da.take i)).length ≤ 90000 := by
    have key : ∀ l : List Int, l.length ≤ 300 → (l.all fun x => inB (idxP n x) 0 (n - 1)) = true → (pickD n rs l).length ≤ 90000 := fun l h4 hl => by
      have h1 := hplen l hl
      have h3 := sizeI_le (l := sb.tail)
      have : ((pickD n rs l).length : Int) ≤ 300 * 300 := by
        rw [h1]
        rcases Int.lt_or_le (sizeI sb.tail) 0 with h5 | h5
        · have : (l.length : Int) * sizeI sb.tail ≤ 0 := Int.mul_nonpos_of_nonneg_of_nonpos (by omega) (by omega)
          omega
        · exact Int.mul_le_mul (by omega) h3 h5 (by omega)
      omega
    have hda := arrOk_len oa
    refine ⟨by rw [← hD]; exact key da hda hall, fun i => key _ (by simp; omega) (List.all_eq_true.2 fun y hy => List.all_eq_true.1 hall y (List.mem_of_mem_take hy))⟩
  rw [hD] at q hpk ⊢
  simp only [List.cons_append, List.nil_append] at q ⊢
  simp -implicitDefEqProofs only [kk0, kk1, kk2, kk3, rW_block, ↓two_true, ↓two_false, rW_cond, rO_guard, oS_some, oM_some, mkv, aggAt, Nat.reduceLeDiff, Nat.reduceSub, Nat.reduceMul, cond_true, cond_false, Option.bind_some, List.length_append, List.length_cons, List.length_nil, List.append_assoc, List.cons_append, List.nil_append, List.set_cons_zero, List.set_cons_succ, List.size_toArray, List.all_cons, List.all_nil, List.drop_zero, List.drop_succ_cons, List.take_succ_cons, List.take_zero, List.mem_cons, Prod.mk.injEq, List.not_mem_nil, implies_true, List.getElem?_toArray, List.getElem?_cons_zero, List.getElem?_cons_succ, List.getElem?_nil, Option.getD_some, Option.getD_none, Nat.reduceEqDiff, reduceIte, Nat.reduceAdd, List.map_toArray, List.map_cons, List.map_nil, Bool.false_eq_true, Nat.reduceBEq, Option.map_some, Option.map_none, reduceCtorEq, al45, ap43_43, bs43_0, fa45_0, fa45_1, ix24, ix43, ld3, ld43, ld45, ln24, ln43, st45, (q.rd 6 rfl).1]
  refine (implRows_ok (q.ar 10 11 rfl rfl l3 l4)).mono ?_
  rintro v H4 ⟨⟨ys, hnw, hcv⟩, he⟩
  rw [hra] at hnw hcv
  have q := q.ncmp hnw hcv he
  clear hnw hcv he
  obtain ⟨ra, rc, rfl, -⟩ := (q.rows 0 rfl).1
  have q := q.lit (cs := []) (n := 0) [] rfl rfl
  simp -implicitDefEqProofs only [kk0, kk1, kk2, kk3, rW_block, ↓two_true, ↓two_false, rW_cond, rO_guard, oS_some, oM_some, mkv, aggAt, Nat.reduceLeDiff, Nat.reduceSub, Nat.reduceMul, cond_true, cond_false, Option.bind_some, List.length_append, List.length_cons, List.length_nil, List.append_assoc, List.cons_append, List.nil_append, List.set_cons_zero, List.set_cons_succ, List.size_toArray, List.all_cons, List.all_nil, List.drop_zero, List.drop_succ_cons, List.take_succ_cons, List.take_zero, List.mem_cons, Prod.mk.injEq, List.not_mem_nil, implies_true, List.getElem?_toArray, List.getElem?_cons_zero, List.getElem?_cons_succ, List.getElem?_nil, Option.getD_some, Option.getD_none, Nat.reduceEqDiff, reduceIte, Nat.reduceAdd, List.map_toArray, List.map_cons, List.map_nil, Bool.false_eq_true, Nat.reduceBEq, Option.map_some, Option.map_none, reduceCtorEq, al45, ap43_43, bs43_0, fa45_0, fa45_1, ix24, ix43, ld3, ld43, ld45, ln24, ln43, st45, (q.rd 5 rfl).1]
  refine rW_loop (σ := Nat × Value) (fun x tm H' => tm 3 = .pointer (some ⟨H1.length, 0, none⟩) ∧ tm 4 = .pointer (some ⟨H1.length + 1, 0, none⟩) ∧ tm 5 = .pointer (some ⟨H2.length, 0, none⟩) ∧ tm 9 = .slice ra rs.length rc ∧ tm 10 = x.2 ∧ tm 11 = .int .i64 x.1 ∧ x.1 ≤ da.length ∧ LD none H H' [.row x.2 (pickD n rs (da.take x.1)), .cmp (.row (.slice ra rs.length rc) [.r, .r] rs.length ys) (rowsV rs), .box H3.length [.slice s1 S.length f1, .slice s2 D.length f2], .row (.slice s1 S.length f1) S, .row (.slice s2 D.length f2) D, .box H2.length [.slice r1 S.length e1, .slice r2 D.length e2], .row (.slice r1 S.length e1) S, .row (.slice r2 D.length e2) D, .box (H1.length + 1) [.slice b1 sb.length d1, .slice b2 db.length d2], .box H1.length [.slice a1 sa.length c1, .slice a2 da.length c2], .row (.slice a1 sa.length c1) sa, .row (.slice a2 da.length c2) da, .row (.slice b1 sb.length d1) sb, .row (.slice b2 db.length d2) db]) (fun x => da.length - x.1) (0, .slice (some ⟨H4.length, 0, none⟩) 0 1) ?_ ?_
  · exact ⟨rfl, rfl, rfl, rfl, rfl, rfl, Nat.zero_le _, q⟩
  rintro ⟨i, o⟩ tm H5 ⟨h3, h4, h5, h9, h10, h11, hi, q⟩
  simp only at h10 h11 hi q
  simp -implicitDefEqProofs only [kk0, kk1, kk2, kk3, rW_block, ↓two_true, ↓two_false, rW_cond, rO_guard, oS_some, oM_some, mkv, aggAt, Nat.reduceLeDiff, Nat.reduceSub, Nat.reduceMul, cond_true, cond_false, Option.bind_some, List.length_append, List.length_cons, List.length_nil, List.append_assoc, List.cons_append, List.nil_append, List.set_cons_zero, List.set_cons_succ, List.size_toArray, List.all_cons, List.all_nil, List.drop_zero, List.drop_succ_cons, List.take_succ_cons, List.take_zero, List.mem_cons, Prod.mk.injEq, List.not_mem_nil, implies_true, List.getElem?_toArray, List.getElem?_cons_zero, List.getElem?_cons_succ, List.getElem?_nil, Option.getD_some, Option.getD_none, Nat.reduceEqDiff, reduceIte, Nat.reduceAdd, List.map_toArray, List.map_cons, List.map_nil, Bool.false_eq_true, Nat.reduceBEq, Option.map_some, Option.map_none, reduceCtorEq, al45, ap43_43, bs43_0, fa45_0, fa45_1, ix24, ix43, ld3, ld43, ld45, ln24, ln43, st45, h3, h4, h5, h9, h10, h11, (q.rd 9 rfl).1, (q.rd 5 rfl).1, (q.rd 8 rfl).1]
  refine two_intro (fun hc => ?_) (fun hc => ?_)
  · have hc' : i < da.length := by simpa using hc
    obtain ⟨b8, o8, cs8, ei8, hrd8, hc8⟩ := ixI (q.own 11 rfl).int hc'
    have hx := List.all_eq_true.1 hall da[i] (List.getElem_mem hc')
    have hx2 : 0 ≤ idxP n da[i] ∧ idxP n da[i] ≤ n - 1 := by simpa [inB] using hx
    obtain ⟨kn, hk⟩ : ∃ kn : Nat, idxP n da[i] = kn := ⟨(idxP n da[i]).toNat, by omega⟩
    have hkn : kn < rs.length := by omega
    have hnum : -1000000000000 ≤ da[i] ∧ da[i] ≤ 1000000000000 := by
      unfold arrOk at oa
      simp only [Bool.and_eq_true] at oa
      have := List.all_eq_true.1 oa.2 da[i] (List.getElem_mem hc')
      simpa [numOk, inB] using this
    have hrs3 : rs.length ≤ 300 := by
      obtain ⟨x, tl, hsb⟩ := List.exists_cons_of_ne_nil hne
      rw [← hrs, hsb]
      rw [hsb] at ob
      obtain ⟨m, e, hn3, -⟩ := arrOk_rows ob
      rw [rowsR_len e]; exact hn3
    have hwa : IntKind.i64.wrap (da[i] + (rs.length : Int)) = da[i] + (rs.length : Int) := IntWalk.i64_in _ (by omega)
    obtain ⟨b6, o6, cs6, p6, q6, ei6, hr6, hp6, hq6, -, hi6⟩ := ixR (q.rows 1 rfl).1 hkn
    obtain ⟨t6, s6, e6, -⟩ := hi6.op
    subst e6
    have hrl8 := (hrow kn rs[kn] (List.getElem?_eq_getElem hkn)).2.2.2.2
    have hl := hDl.2 i
    have hstep : pickD n rs (da.take (i + 1)) = pickD n rs (da.take i) ++ rs[kn].2 := by
      rw [List.take_succ_eq_append_getElem hc', pickD_snoc, hk, Int.toNat_natCast, List.getElem?_eq_getElem hkn, Option.getD_some]
    obtain ⟨oa', oc', rfl⟩ := (q.own 0 rfl).isSlice
    simp -implicitDefEqProofs only [kk0, kk1, kk2, kk3, rW_block, ↓two_true, ↓two_false, rW_cond, rO_guard, oS_some, oM_some, mkv, aggAt, Nat.reduceLeDiff, Nat.reduceSub, Nat.reduceMul, cond_true, cond_false, Option.bind_some, List.length_append, List.length_cons, List.length_nil, List.append_assoc, List.cons_append, List.nil_append, List.set_cons_zero, List.set_cons_succ, List.size_toArray, List.all_cons, List.all_nil, List.drop_zero, List.drop_succ_cons, List.take_succ_cons, List.take_zero, List.mem_cons, Prod.mk.injEq, List.not_mem_nil, implies_true, List.getElem?_toArray, List.getElem?_cons_zero, List.getElem?_cons_succ, List.getElem?_nil, Option.getD_some, Option.getD_none, Nat.reduceEqDiff, reduceIte, Nat.reduceAdd, List.map_toArray, List.map_cons, List.map_nil, Bool.false_eq_true, Nat.reduceBEq, Option.map_some, Option.map_none, reduceCtorEq, al45, ap43_43, bs43_0, fa45_0, fa45_1, ix24, ix43, ld3, ld43, ld45, ln24, ln43, st45, h3, h4, h5, h9, h10, h11, (q.rd 9 rfl).1, (q.rd 5 rfl).1, (q.rd 8 rfl).1, ei8, hrd8, hc8]
    refine two_intro (fun hx => ?_) (fun hx => ?_)
    · have hkx : da[i] + (rs.length : Int) = kn := by rw [← hk]; unfold idxP; rw [if_pos (by simpa using hx)]; try rw [hrl]
      have hkw : IntKind.i64.wrap (da[i] + (rs.length : Int)) = kn := hwa.trans hkx
      simp -implicitDefEqProofs only [kk0, kk1, kk2, kk3, rW_block, ↓two_true, ↓two_false, rW_cond, rO_guard, oS_some, oM_some, mkv, aggAt, Nat.reduceLeDiff, Nat.reduceSub, Nat.reduceMul, cond_true, cond_false, Option.bind_some, List.length_append, List.length_cons, List.length_nil, List.append_assoc, List.cons_append, List.nil_append, List.set_cons_zero, List.set_cons_succ, List.size_toArray, List.all_cons, List.all_nil, List.drop_zero, List.drop_succ_cons, List.take_succ_cons, List.take_zero, List.mem_cons, Prod.mk.injEq, List.not_mem_nil, implies_true, List.getElem?_toArray, List.getElem?_cons_zero, List.getElem?_cons_succ, List.getElem?_nil, Option.getD_some, Option.getD_none, Nat.reduceEqDiff, reduceIte, Nat.reduceAdd, List.map_toArray, List.map_cons, List.map_nil, Bool.false_eq_true, Nat.reduceBEq, Option.map_some, Option.map_none, reduceCtorEq, al45, ap43_43, bs43_0, fa45_0, fa45_1, ix24, ix43, ld3, ld43, ld45, ln24, ln43, st45, h3, h4, h5, h9, h10, h11, hkw, ei6, hr6, hq6]
      refine oA_own (q.own 0 rfl) hi6 (by omega) fun a9 c9 H8 o9 x9 => ?_
      have q := q.push 0 rfl o9 x9
      simp -implicitDefEqProofs only [kk0, kk1, kk2, kk3, rW_block, ↓two_true, ↓two_false, rW_cond, rO_guard, oS_some, oM_some, mkv, aggAt, Nat.reduceLeDiff, Nat.reduceSub, Nat.reduceMul, cond_true, cond_false, Option.bind_some, List.length_append, List.length_cons, List.length_nil, List.append_assoc, List.cons_append, List.nil_append, List.set_cons_zero, List.set_cons_succ, List.size_toArray, List.all_cons, List.all_nil, List.drop_zero, List.drop_succ_cons, List.take_succ_cons, List.take_zero, List.mem_cons, Prod.mk.injEq, List.not_mem_nil, implies_true, List.getElem?_toArray, List.getElem?_cons_zero, List.getElem?_cons_succ, List.getElem?_nil, Option.getD_some, Option.getD_none, Nat.reduceEqDiff, reduceIte, Nat.reduceAdd, List.map_toArray, List.map_cons, List.map_nil, Bool.false_eq_true, Nat.reduceBEq, Option.map_some, Option.map_none, reduceCtorEq, al45, ap43_43, bs43_0, fa45_0, fa45_1, ix24, ix43, ld3, ld43, ld45, ln24, ln43, st45, h3, h4, h5, h9, h10, h11, IntWalk.i64_in (↑i + 1) (by omega)]
      refine ⟨(i + 1, _), by simp only; omega, rfl, by simp, hc', ?_⟩
      simp only
      rw [hstep]
      exact q
    · have hkx : da[i] = kn := by rw [← hk]; unfold idxP; rw [if_neg (by simpa using hx)]; try rw [hrl]
      have hkw := hkx
      simp -implicitDefEqProofs only [kk0, kk1, kk2, kk3, rW_block, ↓two_true, ↓two_false, rW_cond, rO_guard, oS_some, oM_some, mkv, aggAt, Nat.reduceLeDiff, Nat.reduceSub, Nat.reduceMul, cond_true, cond_false, Option.bind_some, List.length_append, List.length_cons, List.length_nil, List.append_assoc, List.cons_append, List.nil_append, List.set_cons_zero, List.set_cons_succ, List.size_toArray, List.all_cons, List.all_nil, List.drop_zero, List.drop_succ_cons, List.take_succ_cons, List.take_zero, List.mem_cons, Prod.mk.injEq, List.not_mem_nil, implies_true, List.getElem?_toArray, List.getElem?_cons_zero, List.getElem?_cons_succ, List.getElem?_nil, Option.getD_some, Option.getD_none, Nat.reduceEqDiff, reduceIte, Nat.reduceAdd, List.map_toArray, List.map_cons, List.map_nil, Bool.false_eq_true, Nat.reduceBEq, Option.map_some, Option.map_none, reduceCtorEq, al45, ap43_43, bs43_0, fa45_0, fa45_1, ix24, ix43, ld3, ld43, ld45, ln24, ln43, st45, h3, h4, h5, h9, h10, h11, hkw, ei6, hr6, hq6]
      refine oA_own (q.own 0 rfl) hi6 (by omega) fun a9 c9 H8 o9 x9 => ?_
      have q := q.push 0 rfl o9 x9
      simp -implicitDefEqProofs only [kk0, kk1, kk2, kk3, rW_block, ↓two_true, ↓two_false, rW_cond, rO_guard, oS_some, oM_some, mkv, aggAt, Nat.reduceLeDiff, Nat.reduceSub, Nat.reduceMul, cond_true, cond_false, Option.bind_some, List.length_append, List.length_cons, List.length_nil, List.append_assoc, List.cons_append, List.nil_append, List.set_cons_zero, List.set_cons_succ, List.size_toArray, List.all_cons, List.all_nil, List.drop_zero, List.drop_succ_cons, List.take_succ_cons, List.take_zero, List.mem_cons, Prod.mk.injEq, List.not_mem_nil, implies_true, List.getElem?_toArray, List.getElem?_cons_zero, List.getElem?_cons_succ, List.getElem?_nil, Option.getD_some, Option.getD_none, Nat.reduceEqDiff, reduceIte, Nat.reduceAdd, List.map_toArray, List.map_cons, List.map_nil, Bool.false_eq_true, Nat.reduceBEq, Option.map_some, Option.map_none, reduceCtorEq, al45, ap43_43, bs43_0, fa45_0, fa45_1, ix24, ix43, ld3, ld43, ld45, ln24, ln43, st45, h3, h4, h5, h9, h10, h11, IntWalk.i64_in (↑i + 1) (by omega)]
      refine ⟨(i + 1, _), by simp only; omega, rfl, by simp, hc', ?_⟩
      simp only
      rw [hstep]
      exact q
  · have hil : i = da.length := Nat.le_antisymm hi (Nat.not_lt.1 (by simpa using hc))
    subst hil
    rw [List.take_length, hD] at q
    have es1 := fun Φ => sameInts_eq (q.own 0 rfl).int (q.own 7 rfl).int (by omega) (Φ := Φ)
    simp -implicitDefEqProofs only [kk0, kk1, kk2, kk3, rW_block, ↓two_true, ↓two_false, rW_cond, rO_guard, oS_some, oM_some, mkv, aggAt, Nat.reduceLeDiff, Nat.reduceSub, Nat.reduceMul, cond_true, cond_false, Option.bind_some, List.length_append, List.length_cons, List.length_nil, List.append_assoc, List.cons_append, List.nil_append, List.set_cons_zero, List.set_cons_succ, List.size_toArray, List.all_cons, List.all_nil, List.drop_zero, List.drop_succ_cons, List.take_succ_cons, List.take_zero, List.mem_cons, Prod.mk.injEq, List.not_mem_nil, implies_true, List.getElem?_toArray, List.getElem?_cons_zero, List.getElem?_cons_succ, List.getElem?_nil, Option.getD_some, Option.getD_none, Nat.reduceEqDiff, reduceIte, Nat.reduceAdd, List.map_toArray, List.map_cons, List.map_nil, Bool.false_eq_true, Nat.reduceBEq, Option.map_some, Option.map_none, reduceCtorEq, al45, ap43_43, bs43_0, fa45_0, fa45_1, ix24, ix43, ld3, ld43, ld45, ln24, ln43, st45, h3, h4, h5, h9, h10, h11, (q.rd 9 rfl).1, (q.rd 5 rfl).1, (q.rd 8 rfl).1, es1, beq_self_eq_true]
    refine (implOk_ar (q.ar 6 7 rfl rfl (by omega) (by omega))).mono ?_
    rintro _ H6 ⟨rfl, he⟩
    have q := q.extd he
    rw [hpk, decide_eq_true hsz]
    have hw1 : IntKind.i64.wrap (IntKind.i64.wrap (↑sa.length + ↑sb.length) - 1) = ↑S.length := by
      rw [hSl, IntWalk.i64_in (↑sa.length + ↑sb.length) (by omega), IntWalk.i64_in _ (by omega)]
    simp -implicitDefEqProofs only [kk0, kk1, kk2, kk3, rW_block, ↓two_true, ↓two_false, rW_cond, rO_guard, oS_some, oM_some, mkv, aggAt, Nat.reduceLeDiff, Nat.reduceSub, Nat.reduceMul, cond_true, cond_false, Option.bind_some, List.length_append, List.length_cons, List.length_nil, List.append_assoc, List.cons_append, List.nil_append, List.set_cons_zero, List.set_cons_succ, List.size_toArray, List.all_cons, List.all_nil, List.drop_zero, List.drop_succ_cons, List.take_succ_cons, List.take_zero, List.mem_cons, Prod.mk.injEq, List.not_mem_nil, implies_true, List.getElem?_toArray, List.getElem?_cons_zero, List.getElem?_cons_succ, List.getElem?_nil, Option.getD_some, Option.getD_none, Nat.reduceEqDiff, reduceIte, Nat.reduceAdd, List.map_toArray, List.map_cons, List.map_nil, Bool.false_eq_true, Nat.reduceBEq, Option.map_some, Option.map_none, reduceCtorEq, al45, ap43_43, bs43_0, fa45_0, fa45_1, ix24, ix43, ld3, ld43, ld45, ln24, ln43, st45, h3, h4, h5, h9, h10, h11, (q.rd 9 rfl).1, (q.rd 5 rfl).1, (q.rd 8 rfl).1, hw1, beq_self_eq_true]

end Go.Proofs.Ytgekbancaeabgaa.AM
