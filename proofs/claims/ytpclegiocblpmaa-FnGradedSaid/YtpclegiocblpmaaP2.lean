/- What the functions answer, part 2. -/
import Derived.Test.YtpclegiocblpmaaP1
set_option linter.unusedVariables false
set_option linter.unusedSimpArgs false
set_option linter.defProp false
set_option maxRecDepth 100000
/- What the functions answer, part 2. -/
namespace Go.Proofs.Ytpclegiocblpmaa.AM
open Go Go.Proofs.Ytpclegiocblpmaa Go.Proofs
theorem LD.aown {c : Option Nat} {H0 H H' : AH} {L : List It} {p q v : Value} {sh dt : List Int} (h : LD c H0 H L) (ha : AOwn H H' v sh dt p q) (hf : ∃ K, H' = H ++ K) : LD c H0 H' (.row p sh :: .row q dt :: L) :=
  h.nrow2 ⟨ha.sh, ha.n1⟩ ⟨ha.dt, ha.n2⟩ ha.dj hf
theorem LD.da {cb : Nat} {H0 H H' : AH} {L : List It} {p q : Value} {sh dt : List Int} (h : LD (some cb) H0 H L) (ha : DA H H' p q sh dt) (hf : Frm cb H H') : LD (some cb) H0 H' (.row p sh :: .row q dt :: L) := by
  have h1 := h.dr ha.sh hf
  have h2 := h.dr ha.dt hf
  have := (h.call hf)
  refine ⟨?_, ?_, ?_, h1.len, h1.keep, h1.cur, fun cb e => ?_⟩
  · rintro (_ | i) y hy
    · cases hy; exact ha.sh.own
    · exact h2.ok i y hy
  · rintro (_ | i) y hy b hb
    · cases hy; exact h1.fr 0 _ rfl b hb
    · exact h2.fr i y hy b hb
  · rintro (_ | _ | i) (_ | _ | j) y z hne hy hz b e1 e2
    · exact hne rfl
    · cases hy; cases hz; exact ha.dj b e1 e2
    · exact h1.dj 0 (j + 1) y z (by omega) hy hz b e1 e2
    · cases hy; cases hz; exact ha.dj b e2 e1
    · exact hne rfl
    · exact h2.dj 0 (j + 1) y z (by omega) hy hz b e1 e2
    · exact h1.dj (i + 1) 0 y z (by omega) hy hz b e1 e2
    · exact h2.dj (i + 1) 0 y z (by omega) hy hz b e1 e2
    · exact h1.dj (i + 1) (j + 1) y z (by omega) hy hz b e1 e2
  · rintro (_ | i) y hy
    · cases hy; exact h1.nc cb e 0 _ rfl
    · exact h2.nc cb e i y hy
theorem LD.rd {c : Option Nat} {H0 H : AH} {L : List It} {o : Nat} {cs : List Value} (h : LD c H0 H L) (i : Nat) (hi : L[i]? = some (.box o cs)) : rd H o = some cs ∧ wrt H o = some cs :=
  ⟨rd_own (h.ok i _ hi), wrt_own (h.ok i _ hi)⟩
theorem LD.own {c : Option Nat} {H0 H : AH} {L : List It} {v : Value} {l : List Int} (h : LD c H0 H L) (i : Nat) (hi : L[i]? = some (.row v l)) : OwnRow H v l := h.ok i _ hi
/-- One thing is turned. -/
theorem LD.upd {c : Option Nat} {H0 H H' : AH} {L : List It} {x x' : It} (h : LD c H0 H L) (i : Nat) (hi : L[i]? = some x) (hl : H.length ≤ H'.length) (hk : ∀ b, b < H.length → ¬ x.bs b → H'[b]? = H[b]?) (hx : x'.ok H') (hb : ∀ b, x'.bs b → x.bs b ∨ H.length ≤ b) : LD c H0 H' (L.set i x') := by
  have hil := (List.getElem?_eq_some_iff.1 hi).1
  have get : ∀ (j : Nat) y, (L.set i x')[j]? = some y → (j = i ∧ y = x') ∨ (j ≠ i ∧ L[j]? = some y) := fun j y hy => by
    rcases Nat.decEq i j with e | e
    · rw [List.getElem?_set_ne e] at hy; exact .inr ⟨Ne.symm e, hy⟩
    · subst e; rw [List.getElem?_set_self hil] at hy; cases hy; exact .inl ⟨rfl, rfl⟩
  refine ⟨fun j y hy => ?_, fun j y hy b hb2 => ?_, fun j k y z hne hy hz b e1 e2 => ?_, Nat.le_trans h.len hl, fun b hb2 hn => ?_, fun cb e => ?_, fun cb e j y hy h2 => ?_⟩
  · rcases get j y hy with ⟨rfl, rfl⟩ | ⟨hne, hy⟩
    · exact hx
    · exact (h.ok j y hy).same fun b hb2 => hk b ((h.ok j y hy).lt b hb2) (h.dj j i y x hne hy hi b hb2)
  · rcases get j y hy with ⟨rfl, rfl⟩ | ⟨hne, hy⟩
    · exact (hb b hb2).elim (h.fr j x hi b) fun h2 => Nat.le_trans h.len h2
    · exact h.fr j y hy b hb2
  · rcases get j y hy with ⟨rfl, rfl⟩ | ⟨hne1, hy'⟩
    · rcases get k z hz with ⟨rfl, rfl⟩ | ⟨hne2, hz⟩
      · exact hne rfl
      · exact (hb b e1).elim (fun e1 => h.dj j k x z hne hi hz b e1 e2) fun e1 => by have := (h.ok k z hz).lt b e2; omega
    · rcases get k z hz with ⟨rfl, rfl⟩ | ⟨hne2, hz⟩
      · exact (hb b e2).elim (fun e2 => h.dj j k y x hne hy' hi b e1 e2) fun e2 => by have := (h.ok j y hy').lt b e1; omega
      · exact h.dj j k y z hne hy' hz b e1 e2
  · rw [hk b (Nat.lt_of_lt_of_le hb2 h.len) fun e => by have := h.fr i x hi b e; omega, h.keep b hb2 hn]
  · have h2 := h.cur cb e
    refine h2.same (hk cb h2.lt (h.nc cb e i x hi)) fun b cs hb2 => ?_
    rw [hk b (List.getElem?_eq_some_iff.1 hb2).1 fun e => ?_]
    · exact hb2
    · obtain ⟨cs', h3⟩ := (h.ok i x hi).ownb b e
      rw [hb2] at h3; cases h3
  · rcases get j y hy with ⟨rfl, rfl⟩ | ⟨hne1, hy'⟩
    · exact (hb cb h2).elim (h.nc cb e j x hi) fun h3 => by have := (h.cur cb e).lt; omega
    · exact h.nc cb e j y hy' h2
theorem LD.cursor {H0 H H' : AH} {L : List It} {cb : Nat} (h : LD none H0 H L) (hf : ∃ K, H' = H ++ K) (hc : Cur H' cb) (hb : H.length ≤ cb) : LD (some cb) H0 H' L := by
  have h1 := h.extd hf
  exact ⟨h1.ok, h1.fr, h1.dj, h1.len, fun b hb _ => h1.keep b hb (by simp), fun g e => by cases e; exact hc, fun g e i x hx h2 => by cases e; have := (h.ok i x hx).lt _ h2; omega⟩
theorem LD.out {H0 H : AH} {L : List It} {cb : Nat} (h : LD (some cb) H0 H L) (hb : H0.length ≤ cb) : LD none H0 H L :=
  ⟨h.ok, h.fr, h.dj, h.len, fun b hb2 _ => h.keep b hb2 (by simp; omega), fun _ e => by simp at e, fun _ e => by simp at e⟩
theorem LD.set {c : Option Nat} {H0 H : AH} {L : List It} {o : Nat} {cs : List Value} (h : LD c H0 H L) (i : Nat) (hi : L[i]? = some (.box o cs)) (cs' : List Value) : LD c H0 (H.set o ⟨cs', .own⟩) (L.set i (.box o cs')) :=
  h.upd i hi (by simp) (fun b hb hn => List.getElem?_set_ne (fun e => hn e.symm)) (set_at (h.ok i _ hi)) fun b hb => .inl hb
theorem LD.push {c : Option Nat} {H0 H H' : AH} {L : List It} {v v' : Value} {l m : List Int} (h : LD c H0 H L) (i : Nat) (hi : L[i]? = some (.row v l)) (ho : OwnRow H' v' m) (ha : App H v H' v') : LD c H0 H' (L.set i (.row v' m)) :=
  h.upd i hi ha.len ha.keep ho ha.new
theorem LD.wr1 {c : Option Nat} {H0 H : AH} {L : List It} {b o : Nat} {cs : List Value} {l : List Int} {k : Nat} {x : Int} (h : LD c H0 H L) (i : Nat) (hi : L[i]? = some (.row (.slice (some ⟨b, o, none⟩) l.length 1) l)) (h1 : H[b]? = some ⟨cs, .own⟩) (h2 : o + l.length ≤ cs.length) (h3 : ∀ (i : Nat) x, l[i]? = some x → cs[o + i]? = some (.int .i64 x)) (hk : k < l.length) :
    LD c H0 (H.set b ⟨cs.set (o + k) (.int .i64 x), .own⟩) (L.set i (.row (.slice (some ⟨b, o, none⟩) l.length 1) (l.set k x))) :=
  h.upd i hi (by simp) (fun g hg hn => List.getElem?_set_ne (fun e => hn (by rw [← e]; rfl))) (OwnRow.wr1 h1 h2 h3 hk) fun g hg => .inl hg
theorem LD.join {c : Option Nat} {H0 H H' : AH} {L L' : List It} (h : LD c H0 H L) (g : LD none H H' L') : LD c H0 H' (L' ++ L) := by
  have h1 := h.extd g.ext
  have get : ∀ (i : Nat) x, (L' ++ L)[i]? = some x → (i < L'.length ∧ L'[i]? = some x) ∨ (L'.length ≤ i ∧ L[i - L'.length]? = some x) := fun i x hx => by
    rcases Nat.lt_or_ge i L'.length with e | e
    · rw [List.getElem?_append_left e] at hx; exact .inl ⟨e, hx⟩
    · rw [List.getElem?_append_right e] at hx; exact .inr ⟨e, hx⟩
  refine ⟨fun i x hx => ?_, fun i x hx b hb => ?_, fun i j x y hne hx hy b e1 e2 => ?_, h1.len, h1.keep, h1.cur, fun cb e i x hx hb => ?_⟩
  · rcases get i x hx with ⟨_, hx⟩ | ⟨_, hx⟩
    · exact g.ok _ x hx
    · exact h1.ok _ x hx
  · rcases get i x hx with ⟨_, hx⟩ | ⟨_, hx⟩
    · exact Nat.le_trans h.len (g.fr _ x hx b hb)
    · exact h1.fr _ x hx b hb
  · rcases get i x hx with ⟨a1, hx⟩ | ⟨a1, hx⟩ <;> rcases get j y hy with ⟨a2, hy⟩ | ⟨a2, hy⟩
    · exact g.dj i j x y hne hx hy b e1 e2
    · have := g.fr _ x hx b e1; have := (h.ok _ y hy).lt b e2; omega
    · have := g.fr _ y hy b e2; have := (h.ok _ x hx).lt b e1; omega
    · exact h1.dj _ _ x y (by omega) hx hy b e1 e2
  · rcases get i x hx with ⟨_, hx⟩ | ⟨_, hx⟩
    · have := g.fr _ x hx cb hb; have := (h.cur cb e).lt; omega
    · exact h1.nc cb e _ x hx hb
def pickL (L : List It) (is : List Nat) : List It := is.map fun i => (L[i]?).getD (.row (.slice none 0 0) [])
theorem LD.pick {c : Option Nat} {H0 H : AH} {L : List It} (h : LD c H0 H L) (is : List Nat) (hn : is.Nodup) : LD c H0 H (pickL L is) := by
  have get : ∀ (j : Nat) x, (pickL L is)[j]? = some x → ∃ i, is[j]? = some i ∧ (L[i]? = some x ∨ x = .row (.slice none 0 0) []) := fun j x hx => by
    simp only [pickL, List.getElem?_map, Option.map_eq_some_iff] at hx
    obtain ⟨i, hi, rfl⟩ := hx
    refine ⟨i, hi, ?_⟩
    cases hL : L[i]? with
    | none => exact .inr rfl
    | some y => exact .inl rfl
  have nob : ∀ b, ¬ (It.row (.slice none 0 0) []).bs b := fun b hb => by simp [It.bs, blkOf] at hb
  refine ⟨fun j x hx => ?_, fun j x hx b hb => ?_, fun j k x y hne hx hy b e1 e2 => ?_, h.len, h.keep, h.cur, fun cb e j x hx hb => ?_⟩
  · obtain ⟨i, _, h1 | rfl⟩ := get j x hx
    · exact h.ok i x h1
    · exact OwnRow.nil
  · obtain ⟨i, _, h1 | rfl⟩ := get j x hx
    · exact h.fr i x h1 b hb
    · exact (nob b hb).elim
  · obtain ⟨i, hi, h1 | rfl⟩ := get j x hx
    · obtain ⟨i', hi', h1' | rfl⟩ := get k y hy
      · refine h.dj i i' x y ?_ h1 h1' b e1 e2
        rintro rfl
        obtain ⟨l1, l2⟩ := List.getElem?_eq_some_iff.1 hi
        obtain ⟨l3, l4⟩ := List.getElem?_eq_some_iff.1 hi'
        have hp := List.pairwise_iff_getElem.1 hn
        rcases Nat.lt_or_gt_of_ne hne with e | e
        · exact hp _ _ l1 l3 e (l2.trans l4.symm)
        · exact hp _ _ l3 l1 e (l4.trans l2.symm)
      · exact nob b e2
    · exact nob b e1
  · obtain ⟨i, _, h1 | rfl⟩ := get j x hx
    · exact h.nc cb e i x h1 hb
    · exact nob cb hb
theorem LD.cells {c : Option Nat} {H0 H : AH} {L : List It} {v : Value} {l : List Int} (h : LD c H0 H L) (i : Nat) (hi : L[i]? = some (.row v l)) (hk : 0 < l.length) :
    ∃ b o cs, v = .slice (some ⟨b, o, none⟩) l.length 1 ∧ Go.Proofs.Ytpclegiocblpmaa.AM.rd H b = some cs ∧ ∀ (i : Nat) x, l[i]? = some x → cs[o + i]? = some (.int .i64 x) := by
  obtain ⟨b, o, cs, rfl, h1, h2, h3⟩ := (h.own i hi).blk hk
  exact ⟨b, o, cs, rfl, rd_own h1, h3⟩

/-- The bytes of a draw. -/
def BRv (H : AH) (v : Value) : Prop := ∃ a n c, v = .slice a n c ∧ n ≤ 1048576 ∧ BRow H a n c
theorem BRow.mono {H L : AH} {a : Option Addr} {n c : Nat} (h : BRow H a n c) : BRow (H ++ L) a n c := fun hn => by
  obtain ⟨b, o, cs, h1, h2, h3, h4⟩ := h hn
  exact ⟨b, o, cs, h1, h2, gtl h3, h4⟩
theorem BRv.ext {H H' : AH} {v : Value} (h : BRv H v) (he : ∃ K, H' = H ++ K) : BRv H' v := by
  obtain ⟨K, rfl⟩ := he
  obtain ⟨a, n, c, h1, h2, h3⟩ := h
  exact ⟨a, n, c, h1, h2, h3.mono⟩
/-- An array that may be read. -/
structure AR (H : AH) (p q : Value) (sh dt : List Int) : Prop where
  os : IntRow H p sh
  od : IntRow H q dt
  l1 : sh.length ≤ 1048576
  l2 : dt.length ≤ 1048576
theorem AR.ext {H H' : AH} {p q : Value} {sh dt : List Int} (h : AR H p q sh dt) (he : ∃ K, H' = H ++ K) : AR H' p q sh dt := ⟨h.os.ext he, h.od.ext he, h.l1, h.l2⟩
theorem AR.mono {H L : AH} {p q : Value} {sh dt : List Int} (h : AR H p q sh dt) : AR (H ++ L) p q sh dt := h.ext ⟨_, rfl⟩
theorem LD.ar {c : Option Nat} {H0 H : AH} {L : List It} {p q : Value} {sh dt : List Int} (h : LD c H0 H L) (i j : Nat) (hi : L[i]? = some (.row p sh)) (hj : L[j]? = some (.row q dt)) (l1 : sh.length ≤ 1048576) (l2 : dt.length ≤ 1048576) : AR H p q sh dt := ⟨(h.own i hi).int, (h.own j hj).int, l1, l2⟩
theorem LD.of {c : Option Nat} {H0 H : AH} {L L' : List It} (h : LD c H0 H L) (e : L = L') : LD c H0 H L' := by rw [← e]; exact h

theorem big_eq {a : Option Addr} {n c : Nat} {H : AH} {Φ : Value → AH → Prop} : CallsA Try.prog 7 #[.slice a n c] H Φ = Φ (.bool (decide (1048576 < (n : Int)))) H := by
  have : CallsA Try.prog 7 #[.slice a n c] H fun r H' => r = .bool (decide (1048576 < (n : Int))) ∧ H' = H := by
    refine w7 ?_
    unfold k7
    simp -implicitDefEqProofs [kk0, kk1, kk2, kk3, rW_block, ↓two_true, ↓two_false, rW_cond, rO_guard, oS_some, oM_some, mkv, aggAt, Nat.reduceLeDiff, Nat.reduceSub, Nat.reduceMul, cond_true, cond_false, Option.bind_some, List.length_append, List.length_cons, List.length_nil, List.append_assoc, List.cons_append, List.nil_append, List.set_cons_zero, List.set_cons_succ, List.size_toArray, List.all_cons, List.all_nil, List.drop_zero, List.drop_succ_cons, List.take_succ_cons, List.take_zero, List.mem_cons, Prod.mk.injEq, List.not_mem_nil, implies_true, List.getElem?_toArray, List.getElem?_cons_zero, List.getElem?_cons_succ, List.getElem?_nil, Option.getD_some, Option.getD_none, Nat.reduceEqDiff, reduceIte, Nat.reduceAdd, List.map_toArray, List.map_cons, List.map_nil, Bool.false_eq_true, Nat.reduceBEq, Option.map_some, Option.map_none, reduceCtorEq, ln22]
  exact this.eq0

set_option maxHeartbeats 4000000 in
theorem l1New_ok {H : AH} {v : Value} (hv : BRv H v) : CallsA Try.prog 27 #[v] H fun r H' => ∃ cb, r = .pointer (some ⟨cb, 0, none⟩) ∧ Cur H' cb ∧ H.length ≤ cb ∧ ∃ K, H' = H ++ K := by
  obtain ⟨a, n, c, rfl, hn, hr⟩ := hv
  refine w27 ?_
  unfold k27
  simp -implicitDefEqProofs only [kz, kk0, kk1, kk2, kk3, ↓two_true, ↓two_false, oS_some, oM_some, mkv, aggAt, Nat.reduceLeDiff, Nat.reduceSub, Nat.reduceMul, implies_true, Nat.reduceEqDiff, reduceIte, Nat.reduceAdd, Nat.reduceBEq, reduceCtorEq, bd85, cv5_3, ix22, ld5, ln22]
  refine rW_loop (σ := Nat) (fun i tm H' => tm 0 = .slice a n c ∧ (∃ h : Int, tm 3 = .int .i64 h) ∧ tm 4 = .int .i64 i ∧ H' = H ∧ i ≤ n) (fun i => n - i) 0 ?_ ?_
  · exact ⟨rfl, ⟨_, rfl⟩, rfl, rfl, Nat.zero_le _⟩
  · rintro i tm H' ⟨h0, ⟨h, h3⟩, h4, rfl, hi⟩
    simp -implicitDefEqProofs only [kz, kk0, kk1, kk2, kk3, ↓two_true, ↓two_false, oS_some, oM_some, mkv, aggAt, Nat.reduceLeDiff, Nat.reduceSub, Nat.reduceMul, implies_true, Nat.reduceEqDiff, reduceIte, Nat.reduceAdd, Nat.reduceBEq, reduceCtorEq, bd85, cv5_3, ix22, ld5, ln22, h0, h3, h4]
    have fin : ∃ cb, Value.pointer (some ⟨H'.length, 0, none⟩) = Value.pointer (some ⟨cb, 0, none⟩) ∧ Cur (H' ++ [⟨[.slice a n c, .int .i64 0, .int .i64 h], .own⟩]) cb ∧ H'.length ≤ cb ∧ ∃ K, H' ++ [⟨[.slice a n c, .int .i64 0, .int .i64 h], .own⟩] = H' ++ K :=
      ⟨_, rfl, ⟨a, n, c, 0, h, by rw [gt0]; rfl, Nat.zero_le _, hn, hr.mono⟩, Nat.le_refl _, _, rfl⟩
    refine two_intro (fun hc => two_intro (fun hc2 => ?_) (fun hc2 => fin)) (fun hc => fin)
    have hc' : i < n := by simpa using hc
    obtain ⟨b, o, cs, rfl, rfl, hb, hcell⟩ := hr (by omega)
    obtain ⟨v, hv, v0, v1⟩ := hcell i hc'
    have hrb : rd H' b = some cs := by unfold rd; rw [hb]; rfl
    simp -implicitDefEqProofs only [kz, kk0, kk1, kk2, kk3, ↓two_true, ↓two_false, oS_some, oM_some, mkv, aggAt, Nat.reduceLeDiff, Nat.reduceSub, Nat.reduceMul, implies_true, Nat.reduceEqDiff, reduceIte, Nat.reduceAdd, Nat.reduceBEq, reduceCtorEq, bd85, cv5_3, ix22, ld5, ln22, h0, h3, h4, Int.toNat_natCast, Nat.mul_one, hrb, hv, IntWalk.i64_in (↑i + 1) (by omega)]
    exact ⟨⟨by omega, by omega⟩, i + 1, by omega, ⟨_, rfl⟩, by simp, hc'⟩
set_option maxHeartbeats 4000000 in
theorem l3Vector_ok {H : AH} {v : Value} {l : List Int} (hv : IntRow H v l) (hl : l.length ≤ 1048576) : CallsA Try.prog 48 #[v] H fun r H' => ∃ p q, r = .agg #[p, q] ∧ LD none H H' [.row p [(l.length : Int)], .row q l] := by
  obtain ⟨a, c, rfl, _⟩ := hv.op
  refine w48 ?_
  unfold k48
  have q := (LD.nil (H := H)).box [.slice none 0 0, .slice none 0 0] |>.lit (cs := [.int .i64 l.length]) (n := 1) [(l.length : Int)] rfl rfl |>.lit (cs := []) (n := 0) [] rfl rfl
  simp -implicitDefEqProofs only [kz, kk0, kk1, kk2, kk3, ↓two_true, ↓two_false, oS_some, oM_some, mkv, aggAt, Nat.reduceLeDiff, Nat.reduceSub, Nat.reduceMul, implies_true, Nat.reduceEqDiff, reduceIte, Nat.reduceAdd, Nat.reduceBEq, reduceCtorEq, al26, ap24_24, bd26, bs24_0, bs24_1, ld26, ln24, st26] at q ⊢
  refine oA_own (q.own 0 rfl) (hv.ext q.ext) (by simp; omega) fun a2 c2 H1 o1 x1 => ?_
  have q := q.push 0 rfl o1 x1
  simp only [List.length_nil, Nat.zero_add, List.nil_append] at q ⊢
  have w := q.set 2 rfl [.slice (some ⟨H.length + 1, 0, none⟩) 1 1, .slice a2 l.length c2]
  simp -implicitDefEqProofs only [kz, kk0, kk1, kk2, kk3, ↓two_true, ↓two_false, oS_some, oM_some, mkv, aggAt, Nat.reduceLeDiff, Nat.reduceSub, Nat.reduceMul, implies_true, Nat.reduceEqDiff, reduceIte, Nat.reduceAdd, Nat.reduceBEq, reduceCtorEq, al26, ap24_24, bd26, bs24_0, bs24_1, ld26, ln24, st26, (q.rd 2 rfl).2, (w.rd 2 rfl).1]
  exact ⟨_, _, rfl, w.pick [1, 0] (by decide)⟩

def Ans1 (H H' : AH) (r : Value) (R : (List Int × List Int) × Int) : Prop := ∃ p q, r = .tuple #[.agg #[p, q], .int .i64 R.2] ∧ LD none H H' [.row p R.1.1, .row q R.1.2]
/-- A value that is an array, without a code. -/
def AnsA (H H' : AH) (r : Value) (R : List Int × List Int) : Prop := ∃ p q, r = .agg #[p, q] ∧ LD none H H' [.row p R.1, .row q R.2]
theorem Ans1.err {H H' : AH} {c : Int} {L : List It} (h : LD none H H' L) : Ans1 H H' (.tuple #[.agg #[.slice none 0 0, .slice none 0 0], .int .i64 c]) (([], []), c) :=
  ⟨_, _, rfl, (h.pick [] (by decide)).nrow2 ⟨OwnRow.nil, fun b hb => by simp [blkOf] at hb⟩ ⟨OwnRow.nil, fun b hb => by simp [blkOf] at hb⟩ (fun b hb => by simp [blkOf] at hb) ext_refl⟩
theorem LD.ans {H H' : AH} {L : List It} {p q : Value} {c : Int} {sh dt : List Int} (h : LD none H H' L) (i j : Nat) (hij : i ≠ j) (hi : L[i]? = some (.row p sh)) (hj : L[j]? = some (.row q dt)) : Ans1 H H' (.tuple #[.agg #[p, q], .int .i64 c]) ((sh, dt), c) := by
  have := h.pick [i, j] (by simp [hij])
  simp only [pickL, List.map_cons, List.map_nil, hi, hj, Option.getD_some] at this
  exact ⟨_, _, rfl, this⟩
theorem AR.o1 {H : AH} {p q : Value} {sh dt : List Int} (h : AR H p q sh dt) : ∃ a c b d, p = .slice a sh.length c ∧ q = .slice b dt.length d := by
  obtain ⟨a, c, e, _⟩ := h.os.op
  obtain ⟨b, d, e', _⟩ := h.od.op
  exact ⟨a, c, b, d, e, e'⟩
/-- The cells of a row that may be read. -/
theorem IntRow.cells {H : AH} {a : Option Addr} {n c : Nat} {l : List Int} (h : IntRow H (.slice a n c) l) {i : Nat} (hi : i < l.length) : n = l.length ∧ ∃ b o cs, a = some ⟨b, o, none⟩ ∧ c = 1 ∧ rd H b = some cs ∧ cs[o + i]? = some (.int .i64 l[i]) := by
  obtain ⟨a', c', e, g⟩ := h.op
  injection e with e1 e2 e3
  subst e1; subst e2; subst e3
  obtain ⟨b, o, cs, g1, g2, g3, g4, g5⟩ := g (by omega)
  exact ⟨rfl, b, o, cs, g1, g2, g3, g5 i hi⟩
theorem AR.lim {H : AH} {p q : Value} {sh dt : List Int} (h : AR H p q sh dt) : sh.length < 4611686018427387904 ∧ dt.length < 4611686018427387904 := by
  have := h.l1; have := h.l2; omega
theorem implOk_ar {H : AH} {p q : Value} {sh dt : List Int} (h : AR H p q sh dt) : CallsA Try.prog 28 #[.agg #[p, q]] H fun r H' => r = .bool (arrOk sh dt) ∧ ∃ K, H' = H ++ K := implArrayOk_ok h.os h.od h.lim.1 h.lim.2

theorem specOk_ar {H : AH} {p q : Value} {sh dt : List Int} (h : AR H p q sh dt) : CallsA Try.prog 33 #[.agg #[p, q]] H fun r H' => r = .bool (arrOk sh dt) ∧ ∃ K, H' = H ++ K := specArrayOk_ok h.os h.od h.lim.1 h.lim.2

set_option maxHeartbeats 4000000 in
theorem copyA_ok {H : AH} {p q : Value} {sh dt : List Int} (h : AR H p q sh dt) : CallsA Try.prog 29 #[.agg #[p, q]] H fun r H' => AnsA H H' r (sh, dt) := by
  refine (copyArray_ok h.os h.od (by have := h.l1; omega) (by have := h.l2; omega)).mono ?_
  rintro r H' ⟨⟨p', q', ao⟩, he⟩
  exact ⟨p', q', ao.eq, LD.nil.aown ao he⟩

set_option maxHeartbeats 4000000 in
theorem vector_ok {H : AH} {v : Value} {l : List Int} (hv : IntRow H v l) (hl : l.length ≤ 1048576) : CallsA Try.prog 38 #[v] H fun r H' => AnsA H H' r ([(l.length : Int)], l) := by
  obtain ⟨a, c, rfl, _⟩ := hv.op
  refine w38 ?_
  unfold k38
  have q := (LD.nil (H := H)).box [.slice none 0 0, .slice none 0 0] |>.lit (cs := [.int .i64 l.length]) (n := 1) [(l.length : Int)] rfl rfl |>.nrow (v := .slice none 0 0) (l := []) ⟨OwnRow.nil, fun b hb => by simp [blkOf] at hb⟩ ext_refl
  simp -implicitDefEqProofs only [kz, kk0, kk1, kk2, kk3, ↓two_true, ↓two_false, oS_some, oM_some, mkv, aggAt, Nat.reduceLeDiff, Nat.reduceSub, Nat.reduceMul, implies_true, Nat.reduceEqDiff, reduceIte, Nat.reduceAdd, Nat.reduceBEq, reduceCtorEq, al26, ap24_24, bd26, bs24_1, ld26, ln24, st26] at q ⊢
  refine oA_own (q.own 0 rfl) (hv.ext q.ext) (by simp; omega) fun a2 c2 H1 o1 x1 => ?_
  have q := q.push 0 rfl o1 x1
  simp only [List.length_nil, Nat.zero_add, List.nil_append] at q ⊢
  have w := q.set 2 rfl [.slice (some ⟨H.length + 1, 0, none⟩) 1 1, .slice a2 l.length c2]
  simp -implicitDefEqProofs only [kz, kk0, kk1, kk2, kk3, ↓two_true, ↓two_false, oS_some, oM_some, mkv, aggAt, Nat.reduceLeDiff, Nat.reduceSub, Nat.reduceMul, implies_true, Nat.reduceEqDiff, reduceIte, Nat.reduceAdd, Nat.reduceBEq, reduceCtorEq, al26, ap24_24, bd26, bs24_1, ld26, ln24, st26, (q.rd 2 rfl).2, (w.rd 2 rfl).1]
  exact ⟨_, _, rfl, w.pick [1, 0] (by decide)⟩

/-- A table whose cells lie in what is never turned; its own block is the function's. -/
structure TabOk (B : Nat → Prop) (H : AH) (v : Value) (ks : List CK) (n : Nat) (xs : List Value) : Prop where
  len : xs.length = n * ks.length
  row : (v = .slice none 0 0 ∧ n = 0) ∨ ∃ b o cs, v = .slice (some ⟨b, o, none⟩) n ks.length ∧ H[b]? = some ⟨cs, .own⟩ ∧ o + n * ks.length ≤ cs.length ∧ ∀ (j : Nat) y, xs[j]? = some y → cs[o + j]? = some y
  cell : ∀ (i c : Nat) k y, i < n → ks[c]? = some k → xs[i * ks.length + c]? = some y → KOk H k y
  base : ∀ y ∈ xs, ∀ b, blkOf y = some b → B b
theorem TabOk.frow {B : Nat → Prop} {H : AH} {v : Value} {ks : List CK} {n : Nat} {xs : List Value} (h : TabOk B H v ks n xs) : FRow H v ks n xs := by
  refine ⟨h.len, ?_, h.cell⟩
  rcases h.row with h1 | ⟨b, o, cs, h1, h2, h3⟩
  · exact .inl h1
  · exact .inr ⟨b, o, cs, h1, rd_own h2, h3⟩
theorem TabOk.same {B B' : Nat → Prop} {H H' : AH} {v : Value} {ks : List CK} {n : Nat} {xs : List Value} (h : TabOk B H v ks n xs) (hv : ∀ b, blkOf v = some b → H'[b]? = H[b]?) (hB : ∀ b, B b → H'[b]? = H[b]?) (hBB : ∀ b, B b → B' b) : TabOk B' H' v ks n xs := by
  refine ⟨h.len, ?_, fun i c k y hi hk hy => (h.cell i c k y hi hk hy).same fun b hb => get_rd (hB b (h.base y (List.mem_of_getElem? hy) b hb)), fun y hy b hb => hBB b (h.base y hy b hb)⟩
  rcases h.row with h1 | ⟨b, o, cs, h1, h2, h3⟩
  · exact .inl h1
  · exact .inr ⟨b, o, cs, h1, by rw [hv b (by rw [h1]; rfl)]; exact h2, h3⟩
theorem TabOk.vals {B : Nat → Prop} {H H' : AH} {v : Value} {ks : List CK} {n : Nat} {xs : List Value} (h : TabOk B H v ks n xs) (hB : ∀ b, B b → H'[b]? = H[b]?) : cvs H' xs = cvs H xs :=
  FRow.cvs_same fun b ⟨y, hy, hb⟩ => get_rd (hB b (h.base y hy b hb))
/-- A table that is only read. -/
structure FTab (B : Nat → Prop) (H : AH) (v : Value) (ks : List CK) (n : Nat) (xs : List Value) : Prop where
  fr : FRow H v ks n xs
  base : ∀ b, (blkOf v = some b ∨ ∃ y ∈ xs, blkOf y = some b) → B b
inductive Ix where
  | own (x : It)
  | tab (v : Value) (ks : List CK) (n : Nat) (xs : List Value) (V : List CV)
  | fro (v : Value) (l : List Int)
  | ftab (v : Value) (ks : List CK) (n : Nat) (xs : List Value) (V : List CV)
def Ix.ok (B : Nat → Prop) (H : AH) : Ix → Prop
  | .own x => x.ok H
  | .tab v ks n xs V => TabOk B H v ks n xs ∧ cvs H xs = V
  | .fro v l => IntRow H v l ∧ ∀ b, blkOf v = some b → B b
  | .ftab v ks n xs V => FTab B H v ks n xs ∧ cvs H xs = V
def Ix.bs : Ix → Nat → Prop
  | .own x, b => x.bs b
  | .tab v _ _ _ _, b => blkOf v = some b
  | .fro _ _, _ => False
  | .ftab _ _ _ _ _, _ => False
theorem Ix.ok.same {B B' : Nat → Prop} {H H' : AH} {x : Ix} (h : x.ok B H) (hs : ∀ b, x.bs b → H'[b]? = H[b]?) (hB : ∀ b, B b → H'[b]? = H[b]?) (hBB : ∀ b, B b → B' b) : x.ok B' H' := by
  cases x with
  | own x => exact It.ok.same h hs
  | tab v ks n xs V => exact ⟨h.1.same hs hB hBB, (h.1.vals hB).trans h.2⟩
  | fro v l => exact ⟨h.1.same fun b o n c e => get_rd (hB b (h.2 b (by rw [e]; rfl))), fun b hb => hBB b (h.2 b hb)⟩
  | ftab v ks n xs V => exact ⟨⟨h.1.fr.same fun b hb => get_rd (hB b (h.1.base b hb)), fun b hb => hBB b (h.1.base b hb)⟩, (FRow.cvs_same fun b hb => get_rd (hB b (h.1.base b (.inr hb)))).trans h.2⟩
theorem Ix.ok.ownb {B : Nat → Prop} {H : AH} {x : Ix} (h : x.ok B H) : ∀ b, x.bs b → ∃ cs, H[b]? = some (⟨cs, .own⟩ : Blk) := by
  intro b hb
  cases x with
  | own x => exact It.ok.ownb h b hb
  | tab v ks n xs V =>
    rcases h.1.row with ⟨e, _⟩ | ⟨b', o, cs, e, h2, _⟩
    · rw [e] at hb; simp [Ix.bs, blkOf] at hb
    · rw [e] at hb; simp [Ix.bs, blkOf] at hb; subst hb; exact ⟨cs, h2⟩
  | fro v l => exact hb.elim
  | ftab v ks n xs V => exact hb.elim
theorem Ix.ok.lt {B : Nat → Prop} {H : AH} {x : Ix} (h : x.ok B H) : ∀ b, x.bs b → b < H.length := fun b hb => by
  obtain ⟨cs, h⟩ := h.ownb b hb
  exact (List.getElem?_eq_some_iff.1 h).1
structure LB (B : Nat → Prop) (c : Option Nat) (H0 H : AH) (L : List Ix) : Prop where
  ok : ∀ (i : Nat) x, L[i]? = some x → x.ok B H
  fr : ∀ (i : Nat) x, L[i]? = some x → ∀ b, x.bs b → ¬ B b ∧ H0.length ≤ b
  dj : ∀ (i j : Nat) x y, i ≠ j → L[i]? = some x → L[j]? = some y → ∀ b, x.bs b → ¬ y.bs b
  len : H0.length ≤ H.length
  keep : ∀ b, b < H0.length → c ≠ some b → H[b]? = H0[b]?
  b0 : ∀ b, b < H0.length → c ≠ some b → B b
  bl : ∀ b, B b → b < H.length ∧ c ≠ some b
  cur : ∀ cb, c = some cb → Cur H cb
  nc : ∀ cb, c = some cb → ∀ (i : Nat) x, L[i]? = some x → ¬ x.bs cb
/-- What a function holds: each by itself, none older than the call; and what it only reads. -/
def LX (c : Option Nat) (H0 H : AH) (L : List Ix) : Prop := ∃ B, LB B c H0 H L
theorem LX.ext {H0 H : AH} {L : List Ix} (h : LX none H0 H L) : ∃ K, H = H0 ++ K := by
  obtain ⟨B, h⟩ := h
  exact ext_of h.len fun b hb => h.keep b hb (by simp)
theorem LX.frm {cb : Nat} {H0 H : AH} {L : List Ix} (h : LX (some cb) H0 H L) : Frm cb H0 H := by
  obtain ⟨B, h⟩ := h
  exact ⟨h.len, fun b hb hn => h.keep b hb (by simpa using Ne.symm hn), h.cur cb rfl⟩
theorem LX.len {c : Option Nat} {H0 H : AH} {L : List Ix} (h : LX c H0 H L) : H0.length ≤ H.length := by
  obtain ⟨B, h⟩ := h; exact h.len
theorem LX.nil {H : AH} : LX none H H [] :=
  ⟨fun b => b < H.length, fun i x h => by simp at h, fun i x h => by simp at h, fun i j x y _ h => by simp at h, Nat.le_refl _, fun _ _ _ => rfl, fun b hb _ => hb, fun b hb => ⟨hb, by simp⟩, fun _ h => by simp at h, fun _ h => by simp at h⟩
/-- The heap turns, but for what is held or only read. -/
theorem LB.add {B : Nat → Prop} {c : Option Nat} {H0 H H' : AH} {L : List Ix} {x : Ix} (h : LB B c H0 H L) (hl : H.length ≤ H'.length) (hk : ∀ b, b < H.length → c ≠ some b → H'[b]? = H[b]?) (hc : ∀ cb, c = some cb → Cur H' cb) (hx : x.ok B H') (hb : ∀ b, x.bs b → H.length ≤ b) : LB B c H0 H' (x :: L) := by
  have same : ∀ (i : Nat) y, L[i]? = some y → y.ok B H' := fun i y hy => (h.ok i y hy).same (fun b hb => hk b ((h.ok i y hy).lt b hb) fun e => h.nc b e i y hy hb) (fun b hb => hk b (h.bl b hb).1 (h.bl b hb).2) fun b hb => hb
  refine ⟨?_, ?_, ?_, Nat.le_trans h.len hl, fun b hb hn => ?_, h.b0, fun b hb => ⟨Nat.lt_of_lt_of_le (h.bl b hb).1 hl, (h.bl b hb).2⟩, hc, fun cb e => ?_⟩
  · rintro (_ | i) y hy
    · cases hy; exact hx
    · exact same i y hy
  · rintro (_ | i) y hy b hb2
    · cases hy
      exact ⟨fun hB => by have := (h.bl b hB).1; have := hb b hb2; omega, Nat.le_trans h.len (hb b hb2)⟩
    · exact h.fr i y hy b hb2
  · rintro (_ | i) (_ | j) y z hne hy hz b h1 h2
    · exact hne rfl
    · cases hy; have := hb b h1; have := (h.ok j z hz).lt b h2; omega
    · cases hz; have := hb b h2; have := (h.ok i y hy).lt b h1; omega
    · exact h.dj i j y z (by omega) hy hz b h1 h2
  · rw [hk b (Nat.lt_of_lt_of_le hb h.len) hn, h.keep b hb hn]
  · rintro (_ | i) y hy h2
    · cases hy; have := hb cb h2; have := (h.cur cb e).lt; omega
    · exact h.nc cb e i y hy h2
theorem LB.tail {B : Nat → Prop} {c : Option Nat} {H0 H : AH} {L : List Ix} {x : Ix} (h : LB B c H0 H (x :: L)) : LB B c H0 H L :=
  ⟨fun i y hy => h.ok (i + 1) y hy, fun i y hy => h.fr (i + 1) y hy, fun i j y z hne hy hz => h.dj (i + 1) (j + 1) y z (by omega) hy hz, h.len, h.keep, h.b0, h.bl, h.cur, fun cb e i y hy => h.nc cb e (i + 1) y hy⟩
theorem LX.tail {c : Option Nat} {H0 H : AH} {L : List Ix} {x : Ix} (h : LX c H0 H (x :: L)) : LX c H0 H L := by
  obtain ⟨B, h⟩ := h; exact ⟨B, h.tail⟩
theorem LB.grow {B : Nat → Prop} {c : Option Nat} {H0 H H' : AH} {L : List Ix} (h : LB B c H0 H L) (hl : H.length ≤ H'.length) (hk : ∀ b, b < H.length → c ≠ some b → H'[b]? = H[b]?) (hc : ∀ cb, c = some cb → Cur H' cb) : LB B c H0 H' L :=
  (h.add (x := .own (.row (.slice none 0 0) [])) hl hk hc OwnRow.nil fun b hb => by simp [Ix.bs, It.bs, blkOf] at hb).tail
theorem LX.call {cb : Nat} {H0 H H' : AH} {L : List Ix} (h : LX (some cb) H0 H L) (hf : Frm cb H H') : LX (some cb) H0 H' L := by
  obtain ⟨B, h⟩ := h
  exact ⟨B, h.grow hf.len (fun b hb hn => hf.keep b hb (by simpa using Ne.symm hn)) (fun g e => by cases e; exact hf.cur)⟩
theorem LX.extd {c : Option Nat} {H0 H H' : AH} {L : List Ix} (h : LX c H0 H L) (hf : ∃ K, H' = H ++ K) : LX c H0 H' L := by
  obtain ⟨B, h⟩ := h
  obtain ⟨K, rfl⟩ := hf
  exact ⟨B, h.grow (by simp) (fun b hb _ => List.getElem?_append_left hb) (fun g e => (h.cur g e).mono)⟩
/-- One thing is turned. -/
theorem LB.upd {B : Nat → Prop} {c : Option Nat} {H0 H H' : AH} {L : List Ix} {x x' : Ix} (h : LB B c H0 H L) (i : Nat) (hi : L[i]? = some x) (hl : H.length ≤ H'.length) (hk : ∀ b, b < H.length → ¬ x.bs b → H'[b]? = H[b]?) (hx : x'.ok B H') (hb : ∀ b, x'.bs b → x.bs b ∨ H.length ≤ b) : LB B c H0 H' (L.set i x') := by
  have hil := (List.getElem?_eq_some_iff.1 hi).1
  have get : ∀ (j : Nat) y, (L.set i x')[j]? = some y → (j = i ∧ y = x') ∨ (j ≠ i ∧ L[j]? = some y) := fun j y hy => by
    rcases Nat.decEq i j with e | e
    · rw [List.getElem?_set_ne e] at hy; exact .inr ⟨Ne.symm e, hy⟩
    · subst e; rw [List.getElem?_set_self hil] at hy; cases hy; exact .inl ⟨rfl, rfl⟩
  have hB : ∀ b, B b → H'[b]? = H[b]? := fun b hb => hk b (h.bl b hb).1 fun e => (h.fr i x hi b e).1 hb
  refine ⟨fun j y hy => ?_, fun j y hy b hb2 => ?_, fun j k y z hne hy hz b e1 e2 => ?_, Nat.le_trans h.len hl, fun b hb2 hn => ?_, h.b0, fun b hb => ⟨Nat.lt_of_lt_of_le (h.bl b hb).1 hl, (h.bl b hb).2⟩, fun cb e => ?_, fun cb e j y hy h2 => ?_⟩
  · rcases get j y hy with ⟨rfl, rfl⟩ | ⟨hne, hy⟩
    · exact hx
    · exact (h.ok j y hy).same (fun b hb2 => hk b ((h.ok j y hy).lt b hb2) (h.dj j i y x hne hy hi b hb2)) hB fun b hb => hb
  · rcases get j y hy with ⟨rfl, rfl⟩ | ⟨hne, hy⟩
    · exact (hb b hb2).elim (h.fr j x hi b) fun h2 => ⟨fun hB2 => by have := (h.bl b hB2).1; omega, Nat.le_trans h.len h2⟩
    · exact h.fr j y hy b hb2
  · rcases get j y hy with ⟨rfl, rfl⟩ | ⟨hne1, hy'⟩
    · rcases get k z hz with ⟨rfl, rfl⟩ | ⟨hne2, hz⟩
      · exact hne rfl
      · exact (hb b e1).elim (fun e1 => h.dj j k x z hne hi hz b e1 e2) fun e1 => by have := (h.ok k z hz).lt b e2; omega
    · rcases get k z hz with ⟨rfl, rfl⟩ | ⟨hne2, hz⟩
      · exact (hb b e2).elim (fun e2 => h.dj j k y x hne hy' hi b e1 e2) fun e2 => by have := (h.ok j y hy').lt b e1; omega
      · exact h.dj j k y z hne hy' hz b e1 e2
  · rw [hk b (Nat.lt_of_lt_of_le hb2 h.len) fun e => by have := (h.fr i x hi b e).2; omega, h.keep b hb2 hn]
  · have h2 := h.cur cb e
    refine h2.same (hk cb h2.lt (h.nc cb e i x hi)) fun b cs hb2 => ?_
    rw [hk b (List.getElem?_eq_some_iff.1 hb2).1 fun e => ?_]
    · exact hb2
    · obtain ⟨cs', h3⟩ := (h.ok i x hi).ownb b e
      rw [hb2] at h3; cases h3
  · rcases get j y hy with ⟨rfl, rfl⟩ | ⟨hne1, hy'⟩
    · exact (hb cb h2).elim (h.nc cb e j x hi) fun h3 => by have := (h.cur cb e).lt; omega
    · exact h.nc cb e j y hy' h2
theorem LX.rd {c : Option Nat} {H0 H : AH} {L : List Ix} {o : Nat} {cs : List Value} (h : LX c H0 H L) (i : Nat) (hi : L[i]? = some (.own (.box o cs))) : rd H o = some cs ∧ wrt H o = some cs := by
  obtain ⟨B, h⟩ := h
  exact ⟨rd_own (h.ok i _ hi), wrt_own (h.ok i _ hi)⟩
theorem LX.own {c : Option Nat} {H0 H : AH} {L : List Ix} {v : Value} {l : List Int} (h : LX c H0 H L) (i : Nat) (hi : L[i]? = some (.own (.row v l))) : OwnRow H v l := by
  obtain ⟨B, h⟩ := h; exact h.ok i _ hi
theorem LX.int {c : Option Nat} {H0 H : AH} {L : List Ix} {v : Value} {l : List Int} (h : LX c H0 H L) (i : Nat) (hi : L[i]? = some (.own (.row v l))) : IntRow H v l := (h.own i hi).int
theorem LX.cur {H0 H : AH} {L : List Ix} {cb : Nat} (h : LX (some cb) H0 H L) : Cur H cb := by
  obtain ⟨B, h⟩ := h; exact h.cur cb rfl
theorem LX.nc {H0 H : AH} {L : List Ix} {cb : Nat} {v : Value} {l : List Int} (h : LX (some cb) H0 H L) (i : Nat) (hi : L[i]? = some (.own (.row v l))) : blkOf v ≠ some cb := by
  obtain ⟨B, h⟩ := h
  exact h.nc cb rfl i _ hi
theorem LX.box {c : Option Nat} {H0 H : AH} {L : List Ix} (h : LX c H0 H L) (cs : List Value) : LX c H0 (H ++ [⟨cs, .own⟩]) (.own (.box H.length cs) :: L) := by
  obtain ⟨B, h⟩ := h
  exact ⟨B, h.add (by simp) (fun b hb _ => List.getElem?_append_left hb) (fun g e => (h.cur g e).mono) (by show (H ++ [⟨cs, .own⟩])[H.length]? = _; rw [gt0]; rfl) fun b hb => by cases hb; exact Nat.le_refl _⟩
theorem LX.nrow {c : Option Nat} {H0 H H' : AH} {L : List Ix} {v : Value} {l : List Int} (h : LX c H0 H L) (hv : DR H H' v l) (hf : ∃ K, H' = H ++ K) : LX c H0 H' (.own (.row v l) :: L) := by
  obtain ⟨B, h⟩ := h
  obtain ⟨K, rfl⟩ := hf
  exact ⟨B, h.add (by simp) (fun b hb _ => List.getElem?_append_left hb) (fun g e => (h.cur g e).mono) hv.own hv.fr⟩
theorem LX.nil0 {c : Option Nat} {H0 H : AH} {L : List Ix} (h : LX c H0 H L) : LX c H0 H (.own (.row (.slice none 0 0) []) :: L) :=
  h.nrow ⟨OwnRow.nil, fun b hb => by simp [blkOf] at hb⟩ ext_refl
theorem LX.set {c : Option Nat} {H0 H : AH} {L : List Ix} {o : Nat} {cs : List Value} (h : LX c H0 H L) (i : Nat) (hi : L[i]? = some (.own (.box o cs))) (cs' : List Value) : LX c H0 (H.set o ⟨cs', .own⟩) (L.set i (.own (.box o cs'))) := by
  obtain ⟨B, h⟩ := h
  exact ⟨B, h.upd i hi (by simp) (fun b hb hn => List.getElem?_set_ne (fun e => hn e.symm)) (set_at (h.ok i _ hi)) fun b hb => .inl hb⟩
theorem LX.push {c : Option Nat} {H0 H H' : AH} {L : List Ix} {v v' : Value} {l m : List Int} (h : LX c H0 H L) (i : Nat) (hi : L[i]? = some (.own (.row v l))) (ho : OwnRow H' v' m) (ha : App H v H' v') : LX c H0 H' (L.set i (.own (.row v' m))) := by
  obtain ⟨B, h⟩ := h
  exact ⟨B, h.upd i hi ha.len ha.keep ho ha.new⟩
/-- What a callee leaves is held from here on. -/
theorem LX.join {c : Option Nat} {H0 H H' : AH} {L : List Ix} {L' : List It} (h : LX c H0 H L) (g : LD none H H' L') : LX c H0 H' (L'.map .own ++ L) := by
  obtain ⟨B, h⟩ := h
  obtain ⟨K, hK⟩ := g.ext
  have h1 : LB B c H0 H' L := h.grow g.len (fun b hb _ => g.keep b hb (by simp)) fun cb e => by rw [hK]; exact (h.cur cb e).mono
  have get : ∀ (i : Nat) x, (L'.map Ix.own ++ L)[i]? = some x → (∃ y, x = .own y ∧ L'[i]? = some y) ∨ (L'.length ≤ i ∧ L[i - L'.length]? = some x) := fun i x hx => by
    rcases Nat.lt_or_ge i L'.length with e | e
    · rw [List.getElem?_append_left (by simpa using e), List.getElem?_map, Option.map_eq_some_iff] at hx
      obtain ⟨y, hy, rfl⟩ := hx
      exact .inl ⟨y, rfl, hy⟩
    · rw [List.getElem?_append_right (by simpa using e), List.length_map] at hx; exact .inr ⟨e, hx⟩
  refine ⟨B, fun i x hx => ?_, fun i x hx b hb => ?_, fun i j x y hne hx hy b e1 e2 => ?_, h1.len, h1.keep, h1.b0, h1.bl, h1.cur, fun cb e i x hx hb => ?_⟩
  · rcases get i x hx with ⟨y, rfl, gx⟩ | ⟨_, hx⟩
    · exact g.ok _ y gx
    · exact h1.ok _ x hx
  · rcases get i x hx with ⟨y, rfl, gx⟩ | ⟨_, hx⟩
    · have := g.fr _ y gx b hb
      exact ⟨fun e => by have := (h.bl b e).1; omega, Nat.le_trans h.len this⟩
    · exact h1.fr _ x hx b hb
  · rcases get i x hx with ⟨x', rfl, gx⟩ | ⟨a1, hx⟩ <;> rcases get j y hy with ⟨y', rfl, gy⟩ | ⟨a2, hy⟩
    · exact g.dj i j x' y' hne gx gy b e1 e2
    · have := g.fr _ x' gx b e1; have := (h.ok _ y hy).lt b e2; omega
    · have := g.fr _ y' gy b e2; have := (h.ok _ x hx).lt b e1; omega
    · exact h1.dj _ _ x y (by omega) hx hy b e1 e2
  · rcases get i x hx with ⟨y, rfl, gx⟩ | ⟨_, hx⟩
    · have := g.fr _ y gx cb hb; have := (h.cur cb e).lt; omega
    · exact h1.nc cb e _ x hx hb
/-- What is handed back. -/
theorem LX.give {c : Option Nat} {H0 H : AH} {L : List Ix} (h : LX c H0 H L) (is : List Nat) (hn : is.Nodup) (L' : List It) (hL : is.map (fun i => L[i]?) = L'.map (fun x => some (.own x))) : LD c H0 H L' := by
  obtain ⟨B, h⟩ := h
  have get : ∀ (j : Nat) x, L'[j]? = some x → ∃ i, is[j]? = some i ∧ L[i]? = some (.own x) := fun j x hx => by
    have := congrArg (fun l => l[j]?) hL
    simp only [List.getElem?_map, hx, Option.map_some, Option.map_eq_some_iff] at this
    exact this
  refine ⟨fun j x hx => ?_, fun j x hx b hb => ?_, fun j k x y hne hx hy b e1 e2 => ?_, h.len, h.keep, h.cur, fun cb e j x hx hb => ?_⟩
  · obtain ⟨i, _, h1⟩ := get j x hx
    exact h.ok i _ h1
  · obtain ⟨i, _, h1⟩ := get j x hx
    exact (h.fr i _ h1 b hb).2
  · obtain ⟨i, hi, h1⟩ := get j x hx
    obtain ⟨i', hi', h1'⟩ := get k y hy
    refine h.dj i i' _ _ ?_ h1 h1' b e1 e2
    rintro rfl
    obtain ⟨l1, l2⟩ := List.getElem?_eq_some_iff.1 hi
    obtain ⟨l3, l4⟩ := List.getElem?_eq_some_iff.1 hi'
    have hp := List.pairwise_iff_getElem.1 hn
    rcases Nat.lt_or_gt_of_ne hne with e | e
    · exact hp _ _ l1 l3 e (l2.trans l4.symm)
    · exact hp _ _ l3 l1 e (l4.trans l2.symm)
  · obtain ⟨i, _, h1⟩ := get j x hx
    exact h.nc cb e i _ h1 hb
theorem LX.pick {c : Option Nat} {H0 H : AH} {L : List Ix} (h : LX c H0 H L) (is : List Nat) (L' : List Ix) (hL : is.map (fun i => L[i]?) = L'.map some) (hn : is.Nodup) : LX c H0 H L' := by
  obtain ⟨B, h⟩ := h
  have get : ∀ (j : Nat) x, L'[j]? = some x → ∃ i, is[j]? = some i ∧ L[i]? = some x := fun j x hx => by
    have := congrArg (fun l => l[j]?) hL
    simp only [List.getElem?_map, hx, Option.map_some, Option.map_eq_some_iff] at this
    exact this
  refine ⟨B, fun j x hx => ?_, fun j x hx b hb => ?_, fun j k x y hne hx hy b e1 e2 => ?_, h.len, h.keep, h.b0, h.bl, h.cur, fun cb e j x hx hb => ?_⟩
  · obtain ⟨i, _, h1⟩ := get j x hx
    exact h.ok i _ h1
  · obtain ⟨i, _, h1⟩ := get j x hx
    exact h.fr i _ h1 b hb
  · obtain ⟨i, hi, h1⟩ := get j x hx
    obtain ⟨i', hi', h1'⟩ := get k y hy
    refine h.dj i i' _ _ ?_ h1 h1' b e1 e2
    rintro rfl
    obtain ⟨l1, l2⟩ := List.getElem?_eq_some_iff.1 hi
    obtain ⟨l3, l4⟩ := List.getElem?_eq_some_iff.1 hi'
    have hp := List.pairwise_iff_getElem.1 hn
    rcases Nat.lt_or_gt_of_ne hne with e | e
    · exact hp _ _ l1 l3 e (l2.trans l4.symm)
    · exact hp _ _ l3 l1 e (l4.trans l2.symm)
  · obtain ⟨i, _, h1⟩ := get j x hx
    exact h.nc cb e i _ h1 hb
theorem LX.out {H0 H : AH} {L : List Ix} {cb : Nat} (h : LX (some cb) H0 H L) (hb : H0.length ≤ cb) : LX none H0 H L := by
  obtain ⟨B, h⟩ := h
  exact ⟨B, h.ok, h.fr, h.dj, h.len, fun b hb2 _ => h.keep b hb2 (by simp; omega), fun b hb2 _ => h.b0 b hb2 (by simp; omega), fun b hb => ⟨(h.bl b hb).1, by simp⟩, fun _ e => by simp at e, fun _ e => by simp at e⟩
theorem LX.cursor {H0 H H' : AH} {L : List Ix} {cb : Nat} (h : LX none H0 H L) (hf : ∃ K, H' = H ++ K) (hc : Cur H' cb) (hb : H.length ≤ cb) : LX (some cb) H0 H' L := by
  obtain ⟨B, h1⟩ := h.extd hf
  obtain ⟨B2, h⟩ := h
  have hlen := ext_len hf
  obtain ⟨K, rfl⟩ := hf
  have h3 : LB B2 none H0 (H ++ K) L := h.grow (by simp) (fun b hb _ => List.getElem?_append_left hb) (fun g e => (h.cur g e).mono)
  refine ⟨B2, h3.ok, h3.fr, h3.dj, h3.len, fun b hb _ => h3.keep b hb (by simp), fun b hb _ => h3.b0 b hb (by simp), fun b hb2 => ⟨(h3.bl b hb2).1, fun e => ?_⟩, fun g e => by cases e; exact hc, fun g e i x hx h2 => ?_⟩
  · cases e
    have := (h.bl _ hb2).1; omega
  · cases e
    have := (h.ok i x hx).lt _ h2; omega
theorem LX.da {cb : Nat} {H0 H H' : AH} {L : List Ix} {p q : Value} {sh dt : List Int} (h : LX (some cb) H0 H L) (ha : DA H H' p q sh dt) (hf : Frm cb H H') : LX (some cb) H0 H' (.own (.row p sh) :: .own (.row q dt) :: L) := by
  obtain ⟨B, h⟩ := h
  have h2 : LB B (some cb) H0 H' (.own (.row q dt) :: L) := h.add hf.len (fun b hb hn => hf.keep b hb (by simpa using Ne.symm hn)) (fun g e => by cases e; exact hf.cur) ha.dt.own ha.dt.fr
  have h1 : LB B (some cb) H0 H' (.own (.row p sh) :: L) := h.add hf.len (fun b hb hn => hf.keep b hb (by simpa using Ne.symm hn)) (fun g e => by cases e; exact hf.cur) ha.sh.own ha.sh.fr
  refine ⟨B, ?_, ?_, ?_, h1.len, h1.keep, h1.b0, h1.bl, h1.cur, fun cb e => ?_⟩
  · rintro (_ | i) y hy
    · cases hy; exact ha.sh.own
    · exact h2.ok i y hy
  · rintro (_ | i) y hy b hb
    · cases hy; exact h1.fr 0 _ rfl b hb
    · exact h2.fr i y hy b hb
  · rintro (_ | _ | i) (_ | _ | j) y z hne hy hz b e1 e2
    · exact hne rfl
    · cases hy; cases hz; exact ha.dj b e1 e2
    · exact h1.dj 0 (j + 1) y z (by omega) hy hz b e1 e2
    · cases hy; cases hz; exact ha.dj b e2 e1
    · exact hne rfl
    · exact h2.dj 0 (j + 1) y z (by omega) hy hz b e1 e2
    · exact h1.dj (i + 1) 0 y z (by omega) hy hz b e1 e2
    · exact h2.dj (i + 1) 0 y z (by omega) hy hz b e1 e2
    · exact h1.dj (i + 1) (j + 1) y z (by omega) hy hz b e1 e2
  · rintro (_ | i) y hy
    · cases hy; exact h1.nc cb e 0 _ rfl
    · exact h2.nc cb e i y hy
theorem LX.ar {c : Option Nat} {H0 H : AH} {L : List Ix} {p q : Value} {sh dt : List Int} (h : LX c H0 H L) (i j : Nat) (hi : L[i]? = some (.own (.row p sh))) (hj : L[j]? = some (.own (.row q dt))) (l1 : sh.length ≤ 1048576) (l2 : dt.length ≤ 1048576) : AR H p q sh dt := ⟨h.int i hi, h.int j hj, l1, l2⟩
theorem LX.ans {H H' : AH} {L : List Ix} {p q : Value} {c : Int} {sh dt : List Int} {R : (List Int × List Int) × Int} (h : LX none H H' L) (i j : Nat) (hij : i ≠ j) (hi : L[i]? = some (.own (.row p sh))) (hj : L[j]? = some (.own (.row q dt))) (hR : R = ((sh, dt), c)) : Ans1 H H' (.tuple #[.agg #[p, q], .int .i64 c]) R := by
  subst hR
  exact ⟨_, _, rfl, h.give [i, j] (by simp [hij]) [.row p sh, .row q dt] (by simp [hi, hj])⟩
theorem LX.err {H H' : AH} {L : List Ix} {c : Int} {R : (List Int × List Int) × Int} (h : LX none H H' L) (hR : R = (([], []), c)) : Ans1 H H' (.tuple #[.agg #[.slice none 0 0, .slice none 0 0], .int .i64 c]) R :=
  (h.nil0.nil0).ans 0 1 (by decide) rfl rfl hR
theorem cast0 : ((0 : Nat) : Int) = 0 := rfl
theorem st_box {c : Option Nat} {H0 H : AH} {L : List Ix} {Φ : Value → AH → Prop} {cs : List Value} (q : LX c H0 H L) (k : ∀ H', LX c H0 H' (.own (.box H.length cs) :: L) → Φ (.pointer (some ⟨H.length, 0, none⟩)) H') : oM (some (cs, none)) H Φ := k _ (q.box cs)
theorem st_lit {c : Option Nat} {H0 H : AH} {L : List Ix} {Φ : Value → AH → Prop} {cs : List Value} {n : Nat} (l : List Int) (he : cs = ints l) (hn : n = l.length) (q : LX c H0 H L) (k : ∀ H', LX c H0 H' (.own (.row (.slice (some ⟨H.length, 0, none⟩) n 1) l) :: L) → Φ (.slice (some ⟨H.length, 0, none⟩) n 1) H') : oM (some (cs, some (n, 1))) H Φ :=
  k _ (q.nrow (DR.lit l (Nat.le_refl _) he hn) ⟨_, rfl⟩)
theorem st_cells {c : Option Nat} {H0 H : AH} {L : List Ix} {Φ : Value → AH → Prop} {cs : List Value} {n s : Nat} (q : LX c H0 H L) (k : ∀ H', LX c H0 H' (.own (.box H.length cs) :: L) → Φ (.slice (some ⟨H.length, 0, none⟩) n s) H') : oM (some (cs, some (n, s))) H Φ := k _ (q.box cs)
theorem st_set {c : Option Nat} {H0 H : AH} {L : List Ix} {Φ : Value → AH → Prop} {b : Nat} {cs cs' : List Value} (q : LX c H0 H L) (i : Nat) (hi : L[i]? = some (.own (.box b cs))) (k : ∀ H', LX c H0 H' (L.set i (.own (.box b cs'))) → Φ undef H') : oS (some (H.set b ⟨cs', .own⟩)) Φ := k _ (q.set i hi cs')
theorem st_app {c : Option Nat} {H0 H : AH} {L : List Ix} {Φ : Value → AH → Prop} {v w : Value} {l m : List Int} (q : LX c H0 H L) (i : Nat) (hi : L[i]? = some (.own (.row v l))) (hw : IntRow H w m) (hl : l.length + m.length ≤ 1073741824)
    (k : ∀ a c' H', LX c H0 H' (L.set i (.own (.row (.slice a (l.length + m.length) c') (l ++ m)))) → Φ (.slice a (l.length + m.length) c') H') : oA (app 1 v w H) Φ :=
  oA_own (q.own i hi) hw hl fun a c' H' o x => k a c' H' (q.push i hi o x)
def Same : List Nat → Tm → Tm → Prop
  | [], _, _ => True
  | k :: ks, a, b => a k = b k ∧ Same ks a b
/-- A loop over a state; what is not turned in it stays. -/
theorem rW_loopQ {P : Program} {cd : KC} {s : List Fr} {Q : Post} {σ : Type} {tm : Tm} {H H0 : AH} {c : Option Nat} {L : List Ix} (q : LX c H0 H L) (live : List Nat) (A : σ → Tm → Prop) (J : σ → List Ix → List Ix) (μ : σ → Nat) (x : σ) (hA : A x tm) (hJ : J x L = L)
    (hs : ∀ x tm' H', Same live tm' tm → A x tm' → LX c H0 H' (J x L) → rW P cd [] (lpK P (fun tm'' H'' => ∃ y, μ y < μ x ∧ Same live tm'' tm' ∧ A y tm'' ∧ LX c H0 H'' (J y L)) s Q) tm' H') : rW P (.loop cd) s Q tm H := by
  have str : ∀ {a b d : Tm}, ∀ ks, Same ks a b → Same ks b d → Same ks a d := by
    intro a b d ks
    induction ks with
    | nil => exact fun _ _ => trivial
    | cons k ks ih => exact fun h1 h2 => ⟨h1.1.trans h2.1, ih h1.2 h2.2⟩
  have sr : ∀ {a : Tm}, ∀ ks, Same ks a a := by
    intro a ks
    induction ks with
    | nil => trivial
    | cons k ks ih => exact ⟨rfl, ih⟩
  refine rW_loop (σ := σ) (fun x tm' H' => Same live tm' tm ∧ A x tm' ∧ LX c H0 H' (J x L)) μ x ⟨sr live, hA, by rw [hJ]; exact q⟩ ?_
  rintro x tm' H' ⟨h1, h2, h3⟩
  refine kW_monoQ (fun ex tm'' H'' hh => ?_) (hs x tm' H' h1 h2 h3)
  cases ex with
  | normal =>
    obtain ⟨y, e1, e2, e3, e4⟩ := hh
    exact ⟨y, e1, str live e2 h1, e3, e4⟩
  | _ => exact hh
theorem rpBytes {P : Program} {H : AH} {t e : TypeId} {v : Value} (h : RpV P H t v) (hu : P.underlying t = some (.slice e)) (he : P.underlying e = some (.int .u8)) (hc : P.cellsOf e = 1) : ∃ a n c, v = .slice a n c ∧ BRow H a n c := by
  obtain ⟨k, vs, h, rfl⟩ := h
  rcases h.slice hu with rfl | ⟨b, n, cs, rfl, h2, h3, h4, k, h5⟩
  · exact ⟨none, 0, 0, by simp [mkV, hu], fun h => by omega⟩
  · rw [hc] at h3 h5
    refine ⟨_, n, 1, by simp [mkV, hu, hc], fun _ => ⟨b, 0, cs, rfl, rfl, h2, fun j hj => ?_⟩⟩
    obtain ⟨m, h6, h7⟩ := (h5 j hj).int he
    have h8 : cs[j]? = some (.int .u8 m) := by
      have := congrArg (fun l : List Value => l[0]?) h6
      simp only [List.getElem?_take_of_lt Nat.zero_lt_one, List.getElem?_drop, Nat.mul_one, Nat.add_zero, List.getElem?_cons_zero] at this
      exact this
    refine ⟨m, by rw [Nat.zero_add]; exact h8, ?_⟩
    have := h7
    simp [Lit.wf] at this
    have e1 : IntKind.u8.min = 0 := rfl
    have e2 : IntKind.u8.max = 255 := rfl
    omega
theorem sizeI_one {n : Nat} (h : n ≤ 300) : sizeI [(n : Int)] = n := by
  have : inB (n : Int) 0 300 = true := by simp [inB]; omega
  simp [sizeI, prodI, this]
  omega
/-- The rows of an array that is right, of rank 1 and above. -/
def rowsR : List Int → List Int → List (List Int × List Int)
  | [], _ => []
  | x :: tl, da => (List.range x.toNat).map fun i => (tl, (da.drop (i * (sizeI tl).toNat)).take (sizeI tl).toNat)
/-- What Rows answers. -/
def rowsA (sa da : List Int) : List (List Int × List Int) := if arrOk sa da then rowsR sa da else []
def rowsV (rs : List (List Int × List Int)) : List CV := rs.flatMap fun r => [.r r.1, .r r.2]
theorem rowsV_len {rs : List (List Int × List Int)} : (rowsV rs).length = rs.length * 2 := by
  induction rs with
  | nil => rfl
  | cons r rs ih => simp only [rowsV, List.flatMap_cons, List.length_append, List.length_cons, List.length_nil] at ih ⊢; omega
theorem rowsV_snoc {rs : List (List Int × List Int)} {r : List Int × List Int} : rowsV (rs ++ [r]) = rowsV rs ++ [.r r.1, .r r.2] := by simp [rowsV]
theorem rowsV_get : ∀ {rs : List (List Int × List Int)} {i : Nat} (h : i < rs.length), (rowsV rs)[i * 2]? = some (.r rs[i].1) ∧ (rowsV rs)[i * 2 + 1]? = some (.r rs[i].2)
  | r :: rs, 0, _ => by simp [rowsV]
  | r :: rs, i + 1, h => by
    have h' : i < rs.length := by simpa using h
    obtain ⟨h1, h2⟩ := rowsV_get h'
    have e : rowsV (r :: rs) = .r r.1 :: .r r.2 :: rowsV rs := rfl
    refine ⟨?_, ?_⟩
    · rw [e, show (i + 1) * 2 = i * 2 + 1 + 1 by omega, List.getElem?_cons_succ, List.getElem?_cons_succ, h1]; rfl
    · rw [e, show (i + 1) * 2 + 1 = i * 2 + 1 + 1 + 1 by omega, List.getElem?_cons_succ, List.getElem?_cons_succ, h2]; rfl
/-- A row of arrays that may be read. -/
def RowsA (H : AH) (v : Value) (rs : List (List Int × List Int)) : Prop :=
  ∃ a c, v = .slice a rs.length c ∧ (0 < rs.length → ∃ b o cs, a = some ⟨b, o, none⟩ ∧ c = 2 ∧ rd H b = some cs ∧
    ∀ i (hi : i < rs.length), ∃ p q, cs[o + i * 2]? = some p ∧ cs[o + i * 2 + 1]? = some q ∧ IntRow H p rs[i].1 ∧ IntRow H q rs[i].2)
theorem RowsA.ext {H H' : AH} {v : Value} {rs : List (List Int × List Int)} (h : RowsA H v rs) (he : ∃ K, H' = H ++ K) : RowsA H' v rs := by
  obtain ⟨a, c, e, g⟩ := h
  refine ⟨a, c, e, fun h0 => ?_⟩
  obtain ⟨b, o, cs, e1, e2, h1, h2⟩ := g h0
  refine ⟨b, o, cs, e1, e2, rd_ext h1 he, fun i hi => ?_⟩
  obtain ⟨p, q, g1, g2, g3, g4⟩ := h2 i hi
  exact ⟨p, q, g1, g2, g3.ext he, g4.ext he⟩
theorem FRow.rows {H : AH} {v : Value} {n : Nat} {xs : List Value} {rs : List (List Int × List Int)} (h : FRow H v [.r, .r] n xs) (hv : cvs H xs = rowsV rs) : RowsA H v rs ∧ n = rs.length := by
  have hn : n = rs.length := by
    have := congrArg List.length hv
    have hl := h.len
    simp only [cvs, List.length_map, rowsV_len, List.length_cons, List.length_nil] at this hl
    omega
  subst hn
  obtain ⟨a, c, rfl, g⟩ := h.opn 2 rfl
  refine ⟨⟨a, c, rfl, fun h0 => ?_⟩, rfl⟩
  obtain ⟨b, o, cs, rfl, rfl, h1, h2, h3⟩ := g h0
  refine ⟨b, o, cs, rfl, rfl, h1, fun i hi => ?_⟩
  obtain ⟨h4, h5⟩ := h3 i hi
  obtain ⟨p, _, e, kp, q, _, rfl, kq, rfl⟩ := h.elemn 2 rfl hi
  rw [e] at h5
  obtain ⟨g1, g2⟩ := rowsV_get hi
  have e0 : (elm 2 xs i)[0]? = some p := by rw [e]; rfl
  have e1 : (elm 2 xs i)[1]? = some q := by rw [e]; rfl
  rw [elm_get (by omega)] at e0 e1
  rw [← hv] at g1 g2
  simp only [cvs, List.getElem?_map] at g1 g2
  rw [Nat.add_zero] at e0
  rw [e0, Option.map_some, cv_row kp.1] at g1
  rw [e1, Option.map_some, cv_row kq.1] at g2
  injection g1 with g1; injection g1 with g1
  injection g2 with g2; injection g2 with g2
  refine ⟨p, q, h5 0 p rfl, h5 1 q rfl, ?_, ?_⟩
  · rw [← g1]; exact kp.1
  · rw [← g2]; exact kq.1
/-- A part of a row. -/
theorem IntRow.sl {P : Program} {t e : TypeId} {H : AH} {a : Option Addr} {n c : Nat} {l : List Int} (ht : P.underlying t = some (.slice e)) (hs : szOf P e = some 1) (h : IntRow H (.slice a n c) l) {lo hi : Option Value} {x y : Nat}
    (hx : optInt 0 lo = some (x : Int)) (hy : optInt n hi = some (y : Int)) (hxy : x ≤ y) (hyn : y ≤ l.length) :
    ∃ a' c', aSlice P t (.slice a n c) lo hi = some (.slice a' (y - x) c') ∧ IntRow H (.slice a' (y - x) c') ((l.drop x).take (y - x)) ∧ (blkOf (.slice a' (y - x) c') = none ∨ blkOf (.slice a' (y - x) c') = blkOf (.slice a n c)) := by
  rcases h with ⟨e1, rfl⟩ | ⟨b, o, cs, e1, h2, h3, h4⟩
  · injection e1 with e1 e2 e3
    subst e1; subst e2; subst e3
    have : y = 0 := by simpa using hyn
    subst this
    obtain rfl : x = 0 := by omega
    refine ⟨none, 0, ?_, .inl ⟨rfl, rfl⟩, .inl rfl⟩
    rw [sln_eq ht hs, hx, hy]
    simp
  · injection e1 with e1 e2 e3
    subst e1; subst e2; subst e3
    have hlen : ((l.drop x).take (y - x)).length = y - x := by simp; omega
    refine ⟨some ⟨b, o + x, none⟩, 1, ?_, .inr ⟨b, o + x, cs, by rw [hlen], h2, by rw [hlen]; omega, ?_⟩, .inr rfl⟩
    · rw [slc_eq ht hs, hx, hy, slc_some, if_pos (by omega)]
      simp
    · rw [hlen]
      have : ints ((l.drop x).take (y - x)) = ((ints l).drop x).take (y - x) := by simp [ints]
      rw [this, ← h4, List.drop_take, List.take_take, List.drop_drop]
      rw [Nat.min_eq_left (by omega)]
theorem prodI_pos_le {x p : Int} (hx : 1 ≤ x) (hp : 0 ≤ p) : p ≤ x * p := by
  have := Int.mul_le_mul_of_nonneg_right hx hp
  omega
theorem prodI_nonneg : ∀ {l : List Int}, (l.all fun x => inB x 0 300) = true → 0 ≤ prodI l
  | [], _ => by decide
  | x :: l, h => by
    simp only [List.all_cons, Bool.and_eq_true] at h
    rw [prodI_cons]
    have h1 : 0 ≤ x := by have := h.1; simp [inB] at this; omega
    exact Int.mul_nonneg h1 (prodI_nonneg h.2)
set_option maxHeartbeats 4000000 in
theorem sizeI_ok {l : List Int} (h : 0 ≤ sizeI l) : l.length ≤ 3 ∧ (l.all fun x => inB x 0 300) = true ∧ sizeI l = prodI l := by
  unfold sizeI at h ⊢
  split at h
  · omega
  · rename_i h1
    split at h
    · rename_i h2
      split at h
      · omega
      · rename_i h3
        rw [if_neg h1, if_pos h2, if_neg h3]
        exact ⟨by omega, h2, rfl⟩
    · omega
theorem sizeI_of {l : List Int} (h1 : l.length ≤ 3) (h2 : (l.all fun x => inB x 0 300) = true) (h3 : prodI l ≤ 300) : sizeI l = prodI l := by
  unfold sizeI
  rw [if_neg (by omega), if_pos h2, if_neg (by omega)]
/-- The sizes of an array's rows. -/
theorem arrOk_rows {x : Int} {tl da : List Int} (h : arrOk (x :: tl) da = true) : ∃ n : Nat, x = n ∧ n ≤ 300 ∧ (0 < n → ∃ m : Nat, sizeI tl = m ∧ m ≤ 300 ∧ da.length = n * m) := by
  unfold arrOk at h
  simp only [Bool.and_eq_true, beq_iff_eq] at h
  obtain ⟨h1, h2, h3⟩ := sizeI_ok (l := x :: tl) (by omega)
  simp only [List.all_cons, Bool.and_eq_true, List.length_cons] at h1 h2
  have hx : 0 ≤ x ∧ x ≤ 300 := by have := h2.1; simp [inB] at this; omega
  refine ⟨x.toNat, by omega, by omega, fun h0 => ?_⟩
  have hp := prodI_nonneg h2.2
  rw [prodI_cons] at h3
  have hle := prodI_pos_le (x := x) (by omega) hp
  have hsz := sizeI_le (l := x :: tl)
  have ht := sizeI_of (l := tl) (by omega) h2.2 (by omega)
  refine ⟨(prodI tl).toNat, by omega, by omega, ?_⟩
  have e1 : ((x.toNat : Int)) = x := by omega
  have e2 : (((prodI tl).toNat : Int)) = prodI tl := by omega
  have : (da.length : Int) = ((x.toNat * (prodI tl).toNat : Nat) : Int) := by
    rw [Int.natCast_mul, e1, e2, h.1, h3]
  omega

/-- The place of a number in a row that may be read, and the number. -/
theorem ixI {H : AH} {a : Option Addr} {n c : Nat} {l : List Int} (h : IntRow H (.slice a n c) l) {i : Nat} (hi : i < l.length) : ∃ b o cs, aIndexAddr Try.prog 24 (.slice a n c) (.int .i64 i) = some (.pointer (some ⟨b, o + i, none⟩)) ∧ rd H b = some cs ∧ cs[o + i]? = some (.int .i64 l[i]) := by
  obtain ⟨e, b, o, cs, rfl, rfl, h1, h2⟩ := h.cells hi
  subst e
  refine ⟨b, o, cs, ?_, h1, h2⟩
  rw [ix24, if_pos (by omega)]
  simp
theorem ixI0 {H : AH} {a : Option Addr} {n c : Nat} {l : List Int} {x : Int} (h : IntRow H (.slice a n c) l) (hx : l[0]? = some x) : ∃ b o cs, aIndexAddr Try.prog 24 (.slice a n c) (.int .i64 0) = some (.pointer (some ⟨b, o, none⟩)) ∧ rd H b = some cs ∧ cs[o]? = some (.int .i64 x) := by
  obtain ⟨h0, rfl⟩ := List.getElem?_eq_some_iff.1 hx
  obtain ⟨b, o, cs, h1, h2, h3⟩ := ixI h h0
  exact ⟨b, o, cs, h1, h2, h3⟩

theorem rowsR_len {x : Int} {tl da : List Int} {n : Nat} (h : x = n) : (rowsR (x :: tl) da).length = n := by simp [rowsR, h]
theorem rowsR_get {x : Int} {tl da : List Int} {n m i : Nat} (h : x = n) (hm : sizeI tl = m) (hi : i < n) : (rowsR (x :: tl) da)[i]? = some (tl, (da.drop (i * m)).take m) := by
  simp [rowsR, h, hm, hi]
theorem New.back {H0 H1 H : AH} {v : Value} {ks : List CK} {n : Nat} {ys : List Value} (h : New H1 H v ks n ys) (hl : H0.length ≤ H1.length) : New H0 H v ks n ys := ⟨h.ot, fun b hb => Nat.le_trans hl (h.fr b hb)⟩
/-- One array more behind a row of arrays. -/
theorem take_snoc {rs : List (List Int × List Int)} {i : Nat} {r : List Int × List Int} (h : rs[i]? = some r) : rowsV (rs.take (i + 1)) = rowsV (rs.take i) ++ [.r r.1, .r r.2] := by
  obtain ⟨h1, h2⟩ := List.getElem?_eq_some_iff.1 h
  rw [List.take_succ_eq_append_getElem h1, h2, rowsV_snoc]

set_option maxHeartbeats 4000000 in
theorem implRows_ok {H : AH} {pa qa : Value} {sa da : List Int} (a : AR H pa qa sa da) : CallsA Try.prog 39 #[.agg #[pa, qa]] H fun r H' => (∃ ys, New H H' r [.r, .r] (rowsA sa da).length ys ∧ cvs H' ys = rowsV (rowsA sa da)) ∧ ∃ K, H' = H ++ K := by
  have al := a.lim
  obtain ⟨a1, c1, a2, c2, rfl, rfl⟩ := a.o1
  refine w39 ?_
  unfold k39
  have q := (LD.nil (H := H)).box [.slice a1 sa.length c1, .slice a2 da.length c2]
  simp -implicitDefEqProofs only [kz, kk0, kk1, kk2, kk3, ↓two_true, ↓two_false, oS_some, oM_some, mkv, aggAt, Nat.reduceLeDiff, Nat.reduceSub, Nat.reduceMul, implies_true, Nat.reduceEqDiff, reduceIte, Nat.reduceAdd, Nat.reduceBEq, reduceCtorEq, ap62_62, bd26, bs62_1, fa26_0, fa26_1, ix24, ld3, ld24, ld26, ln24, sn24, sl24] at q ⊢
  unfold rowsA
  refine (implOk_ar (a.ext q.ext)).mono ?_
  rintro _ H1 ⟨rfl, he⟩
  have q := q.extd he
  clear he
  simp -implicitDefEqProofs only [kz, kk0, kk1, kk2, kk3, ↓two_true, ↓two_false, oS_some, oM_some, mkv, aggAt, Nat.reduceLeDiff, Nat.reduceSub, Nat.reduceMul, implies_true, Nat.reduceEqDiff, reduceIte, Nat.reduceAdd, Nat.reduceBEq, reduceCtorEq, ap62_62, bd26, bs62_1, fa26_0, fa26_1, ix24, ld3, ld24, ld26, ln24, sn24, sl24, (q.rd 0 rfl).1]
  have nil0 : ∀ rs : List (List Int × List Int), rs = [] → (∃ ys, New H H1 (.slice none 0 0) [.r, .r] rs.length ys ∧ cvs H1 ys = rowsV rs) ∧ ∃ K, H1 = H ++ K := fun rs e => by
    subst e; exact ⟨⟨[], New.nil, rfl⟩, q.ext⟩
  refine two_intro (fun u => ?_) (fun u => two_intro (fun u2 => ?_) (fun u2 => ?_))
  · exact nil0 _ (by rw [show arrOk sa da = false by simpa using u]; rfl)
  · refine nil0 _ ?_
    have : sa = [] := by simpa using u2
    rw [this]; simp [rowsR]
  have ok : arrOk sa da = true := by simpa using u
  rw [ok, if_pos rfl]
  have hne : sa ≠ [] := by rintro rfl; simp at u2
  obtain ⟨x, tl, hsa⟩ := List.exists_cons_of_ne_nil hne
  have ok' := ok
  rw [hsa] at ok'
  obtain ⟨n, rfl, hn3, hm0⟩ := arrOk_rows ok'
  have ax := (a.ext q.ext).os
  obtain ⟨t1, y1, ev1, hv1, -⟩ := IntRow.sl (P := Try.prog) (t := 24) (e := 3) (lo := some (.int .i64 1)) (hi := none) (x := 1) (y := sa.length) Try.underlying24 (by kernel_rfl) ax rfl rfl (by rw [hsa]; simp) (Nat.le_refl _)
  have e1 : (sa.drop 1).take (sa.length - 1) = tl := by rw [hsa]; simp
  have e2 : sa.length - 1 = tl.length := by rw [hsa]; simp
  have tl4 : tl.length < 4611686018427387904 := by omega
  rw [e1, e2] at hv1
  rw [e2] at ev1
  have es := fun Φ => (implSizeOf_ok hv1 tl4).eq0 (Φ := Φ)
  have hrl : (rowsR sa da).length = n := by rw [hsa]; exact rowsR_len rfl
  simp -implicitDefEqProofs only [kz, kk0, kk1, kk2, kk3, ↓two_true, ↓two_false, oS_some, oM_some, mkv, aggAt, Nat.reduceLeDiff, Nat.reduceSub, Nat.reduceMul, implies_true, Nat.reduceEqDiff, reduceIte, Nat.reduceAdd, Nat.reduceBEq, reduceCtorEq, ap62_62, bd26, bs62_1, fa26_0, fa26_1, ix24, ld3, ld24, ld26, ln24, sn24, sl24, (q.rd 0 rfl).1, ev1, es]
  refine rW_loop (σ := Nat × Option Addr × Nat × List Value) (fun (i, a', c', ys) tm H' => tm 1 = .pointer (some ⟨H.length, 0, none⟩) ∧ tm 3 = .int .i64 (sizeI tl) ∧ tm 4 = .slice a' i c' ∧ tm 5 = .int .i64 i ∧ i ≤ n ∧
    New H1 H' (.slice a' i c') [.r, .r] i ys ∧ cvs H' ys = rowsV ((rowsR sa da).take i) ∧ ∃ K, H' = H1 ++ K) (fun (i, _) => n - i) (0, none, 0, []) ?_ ?_
  · exact ⟨rfl, rfl, rfl, rfl, Nat.zero_le _, New.nil, rfl, ext_refl⟩
  · rintro ⟨i, a', c', ys⟩ tm H2 ⟨h1, h3, h4, h5, hi, hnw, hcv, he⟩
    have g0 := rd_ext (q.rd 0 rfl).1 he
    have he0 := ext_trans q.ext he
    have a2' := a.ext he0
    obtain ⟨b9, o9, cs9, ei9, hrd, hc0⟩ := ixI0 a2'.os (x := (n : Int)) (by rw [hsa]; rfl)
    simp -implicitDefEqProofs only [kz, kk0, kk1, kk2, kk3, ↓two_true, ↓two_false, oS_some, oM_some, mkv, aggAt, Nat.reduceLeDiff, Nat.reduceSub, Nat.reduceMul, implies_true, Nat.reduceEqDiff, reduceIte, Nat.reduceAdd, Nat.reduceBEq, reduceCtorEq, ap62_62, bd26, bs62_1, fa26_0, fa26_1, ix24, ld3, ld24, ld26, ln24, sn24, sl24, h1, h3, h4, h5, g0, ei9, hrd, hc0]
    refine two_intro (fun hc => ?_) (fun hc => ?_)
    · have hlt : i < n := by simpa using hc
      obtain ⟨m, hm, hm3, hdl⟩ := hm0 (by omega)
      have hb1 : (i + 1) * m ≤ n * m := Nat.mul_le_mul_right m hlt
      have hb2 : (i + 1) * m = i * m + m := by rw [Nat.add_mul, Nat.one_mul]
      have hdl3 := arrOk_len ok
      have w1 : IntKind.i64.wrap ((i : Int) * (m : Int)) = ((i * m : Nat) : Int) := by rw [← Int.natCast_mul, IntWalk.i64_in _ (by omega)]
      have w2 : IntKind.i64.wrap ((i : Int) + 1) = ((i + 1 : Nat) : Int) := by rw [IntWalk.i64_in _ (by omega)]; rfl
      have w3 : IntKind.i64.wrap (((i + 1 : Nat) : Int) * (m : Int)) = (((i + 1) * m : Nat) : Int) := by rw [← Int.natCast_mul, IntWalk.i64_in _ (by omega)]
      obtain ⟨t2, y2, ev2, hv2, -⟩ := IntRow.sl (P := Try.prog) (t := 24) (e := 3) (lo := some (.int .i64 ((i * m : Nat) : Int))) (hi := some (.int .i64 (((i + 1) * m : Nat) : Int))) (x := i * m) (y := (i + 1) * m) Try.underlying24 (by kernel_rfl) a2'.od rfl rfl (by omega) (by omega)
      have e3 : (i + 1) * m - i * m = m := by omega
      rw [e3] at ev2 hv2
      have hv1' := hv1.ext he
      have hdm : ((da.drop (i * m)).take m).length = m := by simp; omega
      obtain ⟨D, hD⟩ : ∃ D, (da.drop (i * m)).take m = D := ⟨_, rfl⟩
      have hlr : (rowsR sa da)[i]? = some (tl, (da.drop (i * m)).take m) := by rw [hsa]; exact rowsR_get rfl hm hlt
      rw [hD] at hdm hv2 hlr
      simp -implicitDefEqProofs only [kz, kk0, kk1, kk2, kk3, ↓two_true, ↓two_false, oS_some, oM_some, mkv, aggAt, Nat.reduceLeDiff, Nat.reduceSub, Nat.reduceMul, implies_true, Nat.reduceEqDiff, reduceIte, Nat.reduceAdd, Nat.reduceBEq, reduceCtorEq, ap62_62, bd26, bs62_1, fa26_0, fa26_1, ix24, ld3, ld24, ld26, ln24, sn24, sl24, h1, h3, h4, h5, g0, ev1, hm, w1, w2, w3, ev2]
      have ac : AR H2 (.slice t1 tl.length y1) (.slice t2 m y2) tl D := ⟨hv1', hv2, by have := a.l1; omega, by omega⟩
      refine (copyA_ok ac).mono ?_
      rintro _ H3 ⟨p', q', rfl, g⟩
      simp only at g
      obtain ⟨a3, c3, e5⟩ := (g.own 0 rfl).isSlice
      obtain ⟨a4, c4, e6⟩ := (g.own 1 rfl).isSlice
      have r1 := (g.own 0 rfl).kok (by have := a.l1; omega)
      have r2 := (g.own 1 rfl).kok (by omega)
      have f1 := g.fr 0 _ rfl
      have f2 := g.fr 1 _ rfl
      have dj := g.dj 0 1 _ _ (by decide) rfl rfl
      simp only [It.bs] at f1 f2 dj
      subst e5; subst e6
      simp -implicitDefEqProofs only [kz, kk0, kk1, kk2, kk3, ↓two_true, ↓two_false, oS_some, oM_some, mkv, aggAt, Nat.reduceLeDiff, Nat.reduceSub, Nat.reduceMul, implies_true, Nat.reduceEqDiff, reduceIte, Nat.reduceAdd, Nat.reduceBEq, reduceCtorEq, ap62_62, bd26, bs62_1, fa26_0, fa26_1, ix24, ld3, ld24, ld26, ln24, sn24, sl24, h1, h3, h4, h5]
      refine oA_newn 2 rfl hnw g.ext ⟨_, _, rfl, r1.1, _, _, rfl, r2.1, rfl⟩ ?_ ?_ (pw_get (by simp; exact dj)) (ext_len he) (by omega) fun b' H4 f3 x3 v3 => ?_
      · simp; exact ⟨r1.2.1, r2.2.1⟩
      · simp only [List.mem_cons, List.not_mem_nil, or_false]
        rintro y (rfl | rfl) b hb
        · exact f1 b hb
        · exact f2 b hb
      · have he4 := x3.ext (H0 := H1) (ext_trans he g.ext) hnw.blk
        · simp -implicitDefEqProofs only [kz, kk0, kk1, kk2, kk3, ↓two_true, ↓two_false, oS_some, oM_some, mkv, aggAt, Nat.reduceLeDiff, Nat.reduceSub, Nat.reduceMul, implies_true, Nat.reduceEqDiff, reduceIte, Nat.reduceAdd, Nat.reduceBEq, reduceCtorEq, ap62_62, bd26, bs62_1, fa26_0, fa26_1, ix24, ld3, ld24, ld26, ln24, sn24, sl24, h1, h3, h4, h5, w2]
          refine ⟨(i + 1, _, _, _), by simp only; omega, by rw [hm], rfl, rfl, hlt, f3, ?_, he4⟩
          rw [v3, hcv, take_snoc hlr]
          simp only [List.map_cons, List.map_nil, r1.2.2, r2.2.2]
    · have hil : i = n := Nat.le_antisymm hi (Nat.not_lt.1 (by simpa using hc))
      subst hil
      refine ⟨⟨ys, ?_, ?_⟩, he0⟩
      · rw [hrl]; exact hnw.back (ext_len q.ext)
      · rw [hcv, List.take_of_length_le (by omega)]

theorem LD.ncmp {c : Option Nat} {H0 H H' : AH} {L : List It} {v : Value} {ks : List CK} {n : Nat} {ys : List Value} {V : List CV} (h : LD c H0 H L) (hv : New H H' v ks n ys) (hV : cvs H' ys = V) (hf : ∃ K, H' = H ++ K) : LD c H0 H' (.cmp (.row v ks n ys) V :: L) := by
  obtain ⟨K, rfl⟩ := hf
  exact h.add (by simp) (fun b hb _ => List.getElem?_append_left hb) (fun g e => (h.cur g e).mono) ⟨hv.ot, hV⟩ fun b hb => hv.fr b hb
theorem LD.rows {c : Option Nat} {H0 H : AH} {L : List It} {v : Value} {n : Nat} {ys : List Value} {rs : List (List Int × List Int)} (h : LD c H0 H L) (i : Nat) (hi : L[i]? = some (.cmp (.row v [.r, .r] n ys) (rowsV rs))) : RowsA H v rs ∧ n = rs.length := by
  obtain ⟨h1, h2⟩ := h.ok i _ hi
  exact FRow.rows (OT.frow h1) h2
theorem LD.concat {c : Option Nat} {H0 H H' : AH} {L : List It} {v : Value} {l : List Int} (h : LD c H0 H L) (ho : OwnRow H' v l) (hf : ∀ b, blkOf v = some b → H.length ≤ b) (he : ∃ K, H' = H ++ K) : LD c H0 H' (.row v l :: L) := h.nrow ⟨ho, hf⟩ he

/-- The place of an array in a row of arrays, and the array. -/
theorem ixR {H : AH} {a : Option Addr} {n c : Nat} {rs : List (List Int × List Int)} (h : RowsA H (.slice a n c) rs) {i : Nat} (hi : i < rs.length) : ∃ b o cs p q, aIndexAddr Try.prog 62 (.slice a n c) (.int .i64 i) = some (.pointer (some ⟨b, o + i * 2, none⟩)) ∧ rd H b = some cs ∧ cs[o + i * 2]? = some p ∧ cs[o + i * 2 + 1]? = some q ∧ IntRow H p rs[i].1 ∧ IntRow H q rs[i].2 := by
  obtain ⟨a', c', e, g⟩ := h
  injection e with e1 e2 e3
  subst e1; subst e2; subst e3
  obtain ⟨b, o, cs, rfl, rfl, h1, h2⟩ := g (by omega)
  obtain ⟨p, q, h3, h4, h5, h6⟩ := h2 i hi
  refine ⟨b, o, cs, p, q, ?_, h1, h3, h4, h5, h6⟩
  rw [ix62, if_pos (by omega)]
  simp
def idxP (n x : Int) : Int := if x < 0 then x + n else x
def pickD (n : Int) (rs : List (List Int × List Int)) (l : List Int) : List Int := l.flatMap fun x => ((rs[(idxP n x).toNat]?).getD ([], [])).2
def pickR (sa da sb db : List Int) : (List Int × List Int) × Int :=
  if arrOk sa da && arrOk sb db then
    (if sb.length = 0 ∨ sa.length + sb.length - 1 > 3 then (([], []), 4)
    else if (da.all fun x => inB (idxP (sb.headD 0) x) 0 (sb.headD 0 - 1)) = true then
      (if sizeI (sa ++ sb.tail) < 0 then (([], []), 6) else ((sa ++ sb.tail, pickD (sb.headD 0) (rowsR sb db) da), 0))
    else (([], []), 5))
  else (([], []), 1)
theorem pickD_snoc {n : Int} {rs : List (List Int × List Int)} {l : List Int} {x : Int} : pickD n rs (l ++ [x]) = pickD n rs l ++ ((rs[(idxP n x).toNat]?).getD ([], [])).2 := by simp [pickD]
theorem prodI_append {l m : List Int} : prodI (l ++ m) = prodI l * prodI m := by
  induction l with
  | nil => simp [prodI]
  | cons x l ih => rw [List.cons_append, prodI_cons, prodI_cons, ih, Int.mul_assoc]
theorem rowsR_len' {sb db : List Int} (h : arrOk sb db = true) (hne : sb ≠ []) : ((rowsR sb db).length : Int) = sb.headD 0 := by
  obtain ⟨x, tl, rfl⟩ := List.exists_cons_of_ne_nil hne
  obtain ⟨n, rfl, -, -⟩ := arrOk_rows h
  rw [rowsR_len rfl]; rfl
/-- The rows' numbers. -/
theorem rowsR_row {sb db : List Int} (h : arrOk sb db = true) {i : Nat} {r : List Int × List Int} (hr : (rowsR sb db)[i]? = some r) : r.1 = sb.tail ∧ 0 ≤ sizeI sb.tail ∧ (r.2.length : Int) = sizeI sb.tail ∧ r.2.all numOk = true ∧ r.2.length ≤ 300 := by
  cases sb with
  | nil => simp [rowsR] at hr
  | cons x tl =>
    obtain ⟨n, rfl, hn3, hm0⟩ := arrOk_rows h
    have hi := (List.getElem?_eq_some_iff.1 hr).1
    rw [rowsR_len rfl] at hi
    obtain ⟨m, hm, hm3, hdl⟩ := hm0 (by omega)
    rw [rowsR_get rfl hm hi] at hr
    cases hr
    have hb1 : (i + 1) * m ≤ n * m := Nat.mul_le_mul_right m hi
    have hb2 : (i + 1) * m = i * m + m := by rw [Nat.add_mul, Nat.one_mul]
    have hd : ((db.drop (i * m)).take m).length = m := by simp; omega
    refine ⟨rfl, by simp only [List.tail_cons]; omega, by simp only [List.tail_cons]; rw [hm, hd], ?_, by simp only; omega⟩
    unfold arrOk at h
    simp only [Bool.and_eq_true] at h
    rw [List.all_eq_true] at h ⊢
    exact fun y hy => h.2 y (List.mem_of_mem_drop (List.mem_of_mem_take hy))
theorem pickD_all {n : Int} {sb db l : List Int} (h : arrOk sb db = true) : (pickD n (rowsR sb db) l).all numOk = true := by
  rw [List.all_eq_true]
  intro y hy
  obtain ⟨x, hx, hy⟩ := List.mem_flatMap.1 hy
  cases hr : (rowsR sb db)[(idxP n x).toNat]? with
  | none => rw [hr] at hy; simp at hy
  | some r =>
    rw [hr] at hy
    exact List.all_eq_true.1 (rowsR_row h hr).2.2.2.1 y hy
theorem pickD_len {sb db : List Int} (h : arrOk sb db = true) (hne : sb ≠ []) : ∀ {l : List Int}, (l.all fun x => inB (idxP (sb.headD 0) x) 0 (sb.headD 0 - 1)) = true → ((pickD (sb.headD 0) (rowsR sb db) l).length : Int) = l.length * sizeI sb.tail
  | [], _ => by simp [pickD]
  | x :: l, hl => by
    simp only [List.all_cons, Bool.and_eq_true] at hl
    have hn := rowsR_len' h hne
    have hx : 0 ≤ idxP (sb.headD 0) x ∧ idxP (sb.headD 0) x ≤ sb.headD 0 - 1 := by simpa [inB] using hl.1
    have hi : (idxP (sb.headD 0) x).toNat < (rowsR sb db).length := by omega
    have h1 := pickD_len h hne hl.2
    obtain ⟨_, _, h2, _⟩ := rowsR_row h (List.getElem?_eq_getElem hi)
    have e : pickD (sb.headD 0) (rowsR sb db) (x :: l) = (rowsR sb db)[(idxP (sb.headD 0) x).toNat].2 ++ pickD (sb.headD 0) (rowsR sb db) l := by
      simp only [pickD, List.flatMap_cons, List.getElem?_eq_getElem hi, Option.getD_some]
    rw [e, List.length_append, Int.natCast_add, h1, h2, List.length_cons, Int.natCast_add, Int.add_mul]
    omega
set_option maxHeartbeats 4000000 in
/-- What is picked is an array that is right where its shape is. -/
theorem pick_ok {sa da sb db : List Int} (h1 : arrOk sa da = true) (h2 : arrOk sb db = true) (hne : sb ≠ []) (hx : (da.all fun x => inB (idxP (sb.headD 0) x) 0 (sb.headD 0 - 1)) = true) :
    arrOk (sa ++ sb.tail) (pickD (sb.headD 0) (rowsR sb db) da) = decide (0 ≤ sizeI (sa ++ sb.tail)) := by
  have hl := pickD_len h2 hne hx
  have ha := pickD_all (n := sb.headD 0) (l := da) h2
  unfold arrOk
  rw [ha, Bool.and_true]
  have hsa : (da.length : Int) = sizeI sa := by unfold arrOk at h1; simp at h1; exact h1.1
  obtain ⟨_, s2, s3⟩ := sizeI_ok (l := sa) (by omega)
  by_cases hs : 0 ≤ sizeI (sa ++ sb.tail)
  · rw [decide_eq_true hs, beq_iff_eq, hl]
    obtain ⟨g1, g2, g3⟩ := sizeI_ok hs
    rw [g3, prodI_append, ← s3, hsa]
    cases hda : da with
    | nil =>
      have : sizeI sa = 0 := by rw [← hsa, hda]; rfl
      rw [this]; simp
    | cons x l =>
      rw [hda] at hx
      simp only [List.all_cons, Bool.and_eq_true] at hx
      have hx0 : 0 ≤ idxP (sb.headD 0) x ∧ idxP (sb.headD 0) x ≤ sb.headD 0 - 1 := by simpa [inB] using hx.1
      obtain ⟨y, tl, rfl⟩ := List.exists_cons_of_ne_nil hne
      obtain ⟨n, rfl, hn3, hm0⟩ := arrOk_rows h2
      simp only [List.headD_cons] at hx0
      obtain ⟨m, hm, _⟩ := hm0 (by omega)
      obtain ⟨_, _, s4⟩ := sizeI_ok (l := tl) (by omega)
      simp only [List.tail_cons]
      rw [s4]
  · rw [decide_eq_false hs, beq_eq_false_iff_ne]
    omega

set_option maxHeartbeats 4000000 in
theorem implPick_ok {H : AH} {pa qa pb qb : Value} {sa da sb db : List Int} (a : AR H pa qa sa da) (b : AR H pb qb sb db) : CallsA Try.prog 14 #[.agg #[pa, qa], .agg #[pb, qb]] H fun r H' => Ans1 H H' r (pickR sa da sb db) := by
  have al := a.lim
  have bl := b.lim
  obtain ⟨a1, c1, a2, c2, rfl, rfl⟩ := a.o1
  obtain ⟨b1, d1, b2, d2, rfl, rfl⟩ := b.o1
  refine w14 ?_
  unfold k14
  have q := (LD.nil (H := H)).box [.slice a1 sa.length c1, .slice a2 da.length c2] |>.box [.slice b1 sb.length d1, .slice b2 db.length d2] |>.box [.slice none 0 0, .slice none 0 0]
  simp -implicitDefEqProofs only [kz, kk0, kk1, kk2, kk3, ↓two_true, ↓two_false, oS_some, oM_some, mkv, aggAt, Nat.reduceLeDiff, Nat.reduceSub, Nat.reduceMul, implies_true, Nat.reduceEqDiff, reduceIte, Nat.reduceAdd, Nat.reduceBEq, reduceCtorEq, al26, ap24_24, bd26, bs89_2, fa26_0, fa26_1, ix24, ix62, ld3, ld24, ld26, ln24, ln62, sn24, sl24, st24, st26] at q ⊢
  unfold pickR
  refine (implOk_ar (a.ext q.ext)).mono ?_
  rintro _ H1 ⟨rfl, he⟩
  have q := q.extd he
  clear he
  have e1 := (q.rd 0 rfl).2
  have e2 := fun k => rd_own (set_at (k' := ⟨k, .own⟩) (q.ok 0 _ rfl))
  have e3 := (q.rd 1 rfl).1
  have e4 := (q.rd 2 rfl).1
  simp -implicitDefEqProofs only [kz, kk0, kk1, kk2, kk3, ↓two_true, ↓two_false, oS_some, oM_some, mkv, aggAt, Nat.reduceLeDiff, Nat.reduceSub, Nat.reduceMul, implies_true, Nat.reduceEqDiff, reduceIte, Nat.reduceAdd, Nat.reduceBEq, reduceCtorEq, al26, ap24_24, bd26, bs89_2, fa26_0, fa26_1, ix24, ix62, ld3, ld24, ld26, ln24, ln62, sn24, sl24, st24, st26, e1, e2, e3, e4]
  refine two_intro (fun u => ?_) (fun u => ?_)
  · rw [show arrOk sa da = false by simpa using u]
    exact Ans1.err (q.set 0 rfl _)
  have v1 : arrOk sa da = true := by simpa using u
  rw [v1]
  clear u
  refine (implOk_ar (b.ext q.ext)).mono ?_
  rintro _ H2 ⟨rfl, he⟩
  have q := q.extd he
  clear he
  have e1 := (q.rd 0 rfl).2
  have e2 := fun k => rd_own (set_at (k' := ⟨k, .own⟩) (q.ok 0 _ rfl))
  have e3 := (q.rd 1 rfl).1
  have e4 := (q.rd 2 rfl).1
  simp -implicitDefEqProofs only [kz, kk0, kk1, kk2, kk3, ↓two_true, ↓two_false, oS_some, oM_some, mkv, aggAt, Nat.reduceLeDiff, Nat.reduceSub, Nat.reduceMul, implies_true, Nat.reduceEqDiff, reduceIte, Nat.reduceAdd, Nat.reduceBEq, reduceCtorEq, al26, ap24_24, bd26, bs89_2, fa26_0, fa26_1, ix24, ix62, ld3, ld24, ld26, ln24, ln62, sn24, sl24, st24, st26, e1, e2, e3, e4]
  refine two_intro (fun u => ?_) (fun u => ?_)
  · rw [show arrOk sb db = false by simpa using u]
    exact Ans1.err (q.set 0 rfl _)
  have v2 : arrOk sb db = true := by simpa using u
  rw [v2]
  clear u
  rw [if_pos (show (true && true) = true from rfl)]
  have w1 : IntKind.i64.wrap (↑sa.length + ↑sb.length) = ↑sa.length + ↑sb.length := IntWalk.i64_in _ (by have := a.l1; have := b.l1; omega)
  have w2 : IntKind.i64.wrap (↑sa.length + ↑sb.length - 1) = ↑sa.length + ↑sb.length - 1 := IntWalk.i64_in _ (by have := a.l1; have := b.l1; omega)
  have w3 : IntKind.i64.wrap (IntKind.i64.wrap (↑sa.length + ↑sb.length) - 1) = ↑sa.length + ↑sb.length - 1 := by rw [w1, w2]
  refine two_intro (fun u => ?_) (fun u => two_intro (fun u2 => ?_) (fun u2 => ?_))
  · rw [if_pos (show sb.length = 0 ∨ sa.length + sb.length - 1 > 3 from .inl (by simpa using u))]
    exact Ans1.err (q.set 0 rfl _)
  · have u2 := of_decide_eq_true u2
    rw [w3] at u2
    rw [if_pos (show sb.length = 0 ∨ sa.length + sb.length - 1 > 3 from .inr (by have := beq_eq_false_iff_ne.1 u; omega))]
    exact Ans1.err (q.set 0 rfl _)
  have u2 := of_decide_eq_false u2
  rw [w3] at u2
  have hr : ¬ (sb.length = 0 ∨ sa.length + sb.length - 1 > 3) := by have := beq_eq_false_iff_ne.1 u; omega
  have hne : sb ≠ [] := by rintro rfl; simp at hr
  rw [if_neg hr]
  have hsl : sa.length ≤ 3 ∧ sb.length ≤ 4 := by omega
  clear u u2
  refine (implRows_ok (b.ext q.ext)).mono ?_
  rintro v H3 ⟨⟨ys, hnw, hcv⟩, he⟩
  rw [show rowsA sb db = rowsR sb db by unfold rowsA; rw [v2]; rfl] at hnw hcv
  have q := q.ncmp hnw hcv he
  obtain ⟨rs, hrs⟩ : ∃ rs, rowsR sb db = rs := ⟨_, rfl⟩
  have hpick := pick_ok (da := da) v1 v2 hne
  have hrl := rowsR_len' v2 hne
  have hrow := fun (i : Nat) r (h : (rowsR sb db)[i]? = some r) => (rowsR_row v2 h)
  rw [hrs] at q hpick hrl hrow ⊢
  clear hnw hcv he e1 e2 e3 e4
  obtain ⟨ra, rc, rfl, -⟩ := (q.rows 0 rfl).1
  obtain ⟨x, tl, hsb⟩ := List.exists_cons_of_ne_nil hne
  have e2 : sb.length - 1 = tl.length := by rw [hsb]; simp
  have htl : sb.tail = tl := by rw [hsb]; rfl
  obtain ⟨t1, y1, ev1, hv1, -⟩ := IntRow.sl (P := Try.prog) (t := 24) (e := 3) (lo := some (.int .i64 1)) (hi := none) (x := 1) (y := sb.length) Try.underlying24 (by kernel_rfl) (b.ext q.ext).os rfl rfl (by rw [hsb]; simp) (Nat.le_refl _)
  have e1 : (sb.drop 1).take (sb.length - 1) = tl := by rw [hsb]; simp
  rw [e1, e2] at hv1
  rw [e2] at ev1
  obtain ⟨S, hS⟩ : ∃ S, sa ++ tl = S := ⟨_, rfl⟩
  rw [htl, hS] at hpick
  rw [htl, hS]
  have hSl : S.length ≤ 7 := by rw [← hS]; simp; omega
  simp -implicitDefEqProofs only [kz, kk0, kk1, kk2, kk3, ↓two_true, ↓two_false, oS_some, oM_some, mkv, aggAt, Nat.reduceLeDiff, Nat.reduceSub, Nat.reduceMul, implies_true, Nat.reduceEqDiff, reduceIte, Nat.reduceAdd, Nat.reduceBEq, reduceCtorEq, al26, ap24_24, bd26, bs89_2, fa26_0, fa26_1, ix24, ix62, ld3, ld24, ld26, ln24, ln62, sn24, sl24, st24, st26, (q.rd 2 rfl).1, (q.rd 3 rfl).1, ev1]
  have kA : KOk H3 .r (.slice a1 sa.length c1) := ⟨(a.ext q.ext).os.ok, by rw [(a.ext q.ext).os.row]; omega⟩
  have kB : KOk H3 .r (.slice t1 tl.length y1) := ⟨hv1.ok, by rw [hv1.row]; omega⟩
  have hcv : cvs (H3 ++ [⟨[.slice a1 sa.length c1, .slice t1 tl.length y1], .own⟩]) [.slice a1 sa.length c1, .slice t1 tl.length y1] = [.r sa, .r tl] := by
    have k1 := ((a.ext q.ext).os.mono (L := [⟨[.slice a1 sa.length c1, .slice t1 tl.length y1], .own⟩]))
    have k2 := (hv1.mono (L := [⟨[.slice a1 sa.length c1, .slice t1 tl.length y1], .own⟩]))
    simp only [cvs, List.map_cons, List.map_nil, cv_row k1.ok, cv_row k2.ok, k1.row, k2.row]
  have q := q.box [.slice a1 sa.length c1, .slice t1 tl.length y1]
  refine (concatI_ok (fRow2 (q.ok 0 _ rfl) kA.mono kB.mono) (by decide) (by rw [hcv]; simp [rsum, rsum1]; omega)).mono ?_
  rw [hcv, show flatR [CV.r sa, CV.r tl] = S by simp [flatR, hS]]
  rintro _ H4 ⟨⟨xa, xc, rfl, ho, hf⟩, he⟩
  have q := ((q.concat ho hf he).nrow (v := .slice none 0 0) (l := []) ⟨OwnRow.nil, fun b hb => by simp [blkOf] at hb⟩ ext_refl).box [.slice xa S.length xc, .slice none 0 0]
  simp -implicitDefEqProofs only [kz, kk0, kk1, kk2, kk3, ↓two_true, ↓two_false, oS_some, oM_some, mkv, aggAt, Nat.reduceLeDiff, Nat.reduceSub, Nat.reduceMul, implies_true, Nat.reduceEqDiff, reduceIte, Nat.reduceAdd, Nat.reduceBEq, reduceCtorEq, al26, ap24_24, bd26, bs89_2, fa26_0, fa26_1, ix24, ix62, ld3, ld24, ld26, ln24, ln62, sn24, sl24, st24, st26] at ⊢
  have e0 := (q.rd 7 rfl).1
  try simp -implicitDefEqProofs only [kz, kk0, kk1, kk2, kk3, ↓two_true, ↓two_false, oS_some, oM_some, mkv, aggAt, Nat.reduceLeDiff, Nat.reduceSub, Nat.reduceMul, implies_true, Nat.reduceEqDiff, reduceIte, Nat.reduceAdd, Nat.reduceBEq, reduceCtorEq, al26, ap24_24, bd26, bs89_2, fa26_0, fa26_1, ix24, ix62, ld3, ld24, ld26, ln24, ln62, sn24, sl24, st24, st26, e0]
  refine rW_loop (σ := Nat × Option Addr × Nat) (fun x tm H' => tm 2 = .pointer (some ⟨H.length, 0, none⟩) ∧ tm 3 = .pointer (some ⟨H.length + 1, 0, none⟩) ∧ tm 4 = .pointer (some ⟨H.length + 2, 0, none⟩) ∧ tm 6 = .slice ra rs.length rc ∧ tm 7 = .pointer (some ⟨H4.length, 0, none⟩) ∧ tm 48 = .slice a2 da.length c2 ∧ tm 49 = .int .i64 da.length ∧ tm 50 = .int .i64 x.1 ∧ x.1 ≤ da.length ∧ ((da.take x.1).all fun x => inB (idxP (sb.headD 0) x) 0 (sb.headD 0 - 1)) = true ∧ LD none H H' [.box H4.length [.slice xa S.length xc, .slice x.2.1 (pickD (sb.headD 0) rs (da.take x.1)).length x.2.2], .row (.slice x.2.1 (pickD (sb.headD 0) rs (da.take x.1)).length x.2.2) (pickD (sb.headD 0) rs (da.take x.1)), .row (.slice xa S.length xc) S, .box H3.length [.slice a1 sa.length c1, .slice t1 tl.length y1], .cmp (.row (.slice ra rs.length rc) [.r, .r] rs.length ys) (rowsV rs), .box (H.length + 2) [.slice none 0 0, .slice none 0 0], .box (H.length + 1) [.slice b1 sb.length d1, .slice b2 db.length d2], .box H.length [.slice a1 sa.length c1, .slice a2 da.length c2]]) (fun x => da.length - x.1) (0, none, 0) ?_ ?_
  · exact ⟨rfl, rfl, rfl, rfl, rfl, rfl, rfl, rfl, Nat.zero_le _, rfl, q⟩
  · rintro ⟨i, av, cv⟩ tm H5 ⟨h2, h3, h4, h6, h7, h48, h49, h50, hi, hall, q⟩
    simp only at h50 hi hall q
    simp -implicitDefEqProofs only [kz, kk0, kk1, kk2, kk3, ↓two_true, ↓two_false, oS_some, oM_some, mkv, aggAt, Nat.reduceLeDiff, Nat.reduceSub, Nat.reduceMul, implies_true, Nat.reduceEqDiff, reduceIte, Nat.reduceAdd, Nat.reduceBEq, reduceCtorEq, al26, ap24_24, bd26, bs89_2, fa26_0, fa26_1, ix24, ix62, ld3, ld24, ld26, ln24, ln62, sn24, sl24, st24, st26, h2, h3, h4, h6, h7, h48, h49, h50]
    refine two_intro (fun hc => ?_) (fun hc => ?_)
    · have hc' : i < da.length := by simpa using hc
      obtain ⟨b9, o9, cs9, ei, hrd, hcell⟩ := ixI (a.ext q.ext).od hc'
      have hnum : -1000000000000 ≤ da[i] ∧ da[i] ≤ 1000000000000 := by
        unfold arrOk at v1
        simp only [Bool.and_eq_true] at v1
        have := List.all_eq_true.1 v1.2 da[i] (List.getElem_mem hc')
        simpa [numOk, inB] using this
      have hrs3 : rs.length ≤ 300 := by
        rw [← hrs, hsb]
        rw [hsb] at v2
        obtain ⟨n, e, hn3, -⟩ := arrOk_rows v2
        rw [rowsR_len e]; exact hn3
      have hwl : IntKind.i64.wrap ((rs.length : Int) - 1) = (rs.length : Int) - 1 := IntWalk.i64_in _ (by omega)
      have hwa : IntKind.i64.wrap (da[i] + (rs.length : Int)) = da[i] + (rs.length : Int) := IntWalk.i64_in _ (by omega)
      have hwi : IntKind.i64.wrap ((i : Int) + 1) = ((i + 1 : Nat) : Int) := IntWalk.i64_in _ (by omega)
      have hlD : (pickD (sb.headD 0) rs (da.take i)).length ≤ 90000 := by
        have h1 := pickD_len (l := da.take i) v2 hne hall
        rw [hrs] at h1
        have h3 := sizeI_le (l := sb.tail)
        have h4 : (da.take i).length ≤ 300 := by have := arrOk_len v1; simp; omega
        have : ((pickD (sb.headD 0) rs (da.take i)).length : Int) ≤ 300 * 300 := by
          rw [h1]
          rcases Int.lt_or_le (sizeI sb.tail) 0 with h5 | h5
          · have : ((da.take i).length : Int) * sizeI sb.tail ≤ 0 := Int.mul_nonpos_of_nonneg_of_nonpos (by omega) (by omega)
            omega
          · exact Int.mul_le_mul (by omega) h3 h5 (by omega)
        omega
      have hstep : pickD (sb.headD 0) rs (da.take (i + 1)) = pickD (sb.headD 0) rs (da.take i) ++ ((rs[(idxP (sb.headD 0) da[i]).toNat]?).getD ([], [])).2 := by
        rw [List.take_succ_eq_append_getElem hc', pickD_snoc]
      simp -implicitDefEqProofs only [kz, kk0, kk1, kk2, kk3, ↓two_true, ↓two_false, oS_some, oM_some, mkv, aggAt, Nat.reduceLeDiff, Nat.reduceSub, Nat.reduceMul, implies_true, Nat.reduceEqDiff, reduceIte, Nat.reduceAdd, Nat.reduceBEq, reduceCtorEq, al26, ap24_24, bd26, bs89_2, fa26_0, fa26_1, ix24, ix62, ld3, ld24, ld26, ln24, ln62, sn24, sl24, st24, st26, h2, h3, h4, h6, h7, h48, h49, h50, ei, hrd, hcell]
      obtain ⟨k, hk⟩ : ∃ k, idxP (sb.headD 0) da[i] = k := ⟨_, rfl⟩
      have bad : inB k 0 ((rs.length : Int) - 1) = false → ∀ kk, Ans1 H (H5.set (H.length + 2) kk) (.tuple #[.agg #[.slice none 0 0, .slice none 0 0], .int .i64 5]) (if (da.all fun x => inB (idxP (sb.headD 0) x) 0 (sb.headD 0 - 1)) = true then (if sizeI S < 0 then (([], []), 6) else ((S, pickD (sb.headD 0) rs da), 0)) else (([], []), 5)) := fun hb kk => by
        rw [if_neg]
        · exact Ans1.err (LD.upd q 5 rfl (by simp) (fun b hb hn => List.getElem?_set_ne (fun e => hn e.symm)) (x' := .row (.slice none 0 0) []) OwnRow.nil fun b hb => by simp [It.bs, blkOf] at hb)
        · rw [Bool.not_eq_true, all_take_false (f := fun x => inB (idxP (sb.headD 0) x) 0 (sb.headD 0 - 1)) hc' (by rw [hk, ← hrl]; exact hb)]
      refine two_intro (fun hx => ?_) (fun hx => ?_)
      · have hkx : da[i] + (rs.length : Int) = k := by rw [← hk]; unfold idxP; rw [if_pos (by simpa using hx)]; try rw [hrl]
        have hkw : IntKind.i64.wrap (da[i] + (rs.length : Int)) = k := hwa.trans hkx
        simp -implicitDefEqProofs only [kz, kk0, kk1, kk2, kk3, ↓two_true, ↓two_false, oS_some, oM_some, mkv, aggAt, Nat.reduceLeDiff, Nat.reduceSub, Nat.reduceMul, implies_true, Nat.reduceEqDiff, reduceIte, Nat.reduceAdd, Nat.reduceBEq, reduceCtorEq, al26, ap24_24, bd26, bs89_2, fa26_0, fa26_1, ix24, ix62, ld3, ld24, ld26, ln24, ln62, sn24, sl24, st24, st26, h2, h3, h4, h6, h7, h48, h49, h50, hkw, hwl, within_eq]
        refine two_intro (fun hb => ?_) (fun hb => ?_)
        · simp -implicitDefEqProofs only [kz, kk0, kk1, kk2, kk3, ↓two_true, ↓two_false, oS_some, oM_some, mkv, aggAt, Nat.reduceLeDiff, Nat.reduceSub, Nat.reduceMul, implies_true, Nat.reduceEqDiff, reduceIte, Nat.reduceAdd, Nat.reduceBEq, reduceCtorEq, al26, ap24_24, bd26, bs89_2, fa26_0, fa26_1, ix24, ix62, ld3, ld24, ld26, ln24, ln62, sn24, sl24, st24, st26, h2, h3, h4, h6, h7, (q.rd 5 rfl).2, rd_own (set_at (k' := ⟨[.slice none 0 0, .slice none 0 0], .own⟩) (q.ok 5 _ rfl))]
          exact bad (by simpa using hb) _
        have hb' : inB k 0 ((rs.length : Int) - 1) = true := by simpa using hb
        have hkr : 0 ≤ k ∧ k ≤ (rs.length : Int) - 1 := by simpa [inB] using hb'
        obtain ⟨kn, rfl⟩ : ∃ kn : Nat, k = kn := ⟨k.toNat, by omega⟩
        have hkn : kn < rs.length := by omega
        obtain ⟨b8, o8, cs8, p8, q8, ei8, hr8, hp8, hq8, -, hi8⟩ := ixR (q.rows 4 rfl).1 hkn
        obtain ⟨t8, s8, e8, -⟩ := hi8.op
        subst e8
        have hrl8 := (hrow kn rs[kn] (List.getElem?_eq_getElem hkn)).2.2.2.2
        rw [hk, Int.toNat_natCast, List.getElem?_eq_getElem hkn, Option.getD_some] at hstep
        simp -implicitDefEqProofs only [kz, kk0, kk1, kk2, kk3, ↓two_true, ↓two_false, oS_some, oM_some, mkv, aggAt, Nat.reduceLeDiff, Nat.reduceSub, Nat.reduceMul, implies_true, Nat.reduceEqDiff, reduceIte, Nat.reduceAdd, Nat.reduceBEq, reduceCtorEq, al26, ap24_24, bd26, bs89_2, fa26_0, fa26_1, ix24, ix62, ld3, ld24, ld26, ln24, ln62, sn24, sl24, st24, st26, h2, h3, h4, h6, h7, h48, h49, h50, (q.rd 0 rfl).1, ei8, hr8, hq8, hkw]
        refine oA_own (q.own 1 rfl) hi8 (by omega) fun a9 c9 H6 o9 x9 => ?_
        have q := q.push 1 rfl o9 x9
        have q' := q.set 0 rfl [.slice xa S.length xc, .slice a9 ((pickD (sb.headD 0) rs (da.take i)).length + rs[kn].2.length) c9]
        simp -implicitDefEqProofs only [kz, kk0, kk1, kk2, kk3, ↓two_true, ↓two_false, oS_some, oM_some, mkv, aggAt, Nat.reduceLeDiff, Nat.reduceSub, Nat.reduceMul, implies_true, Nat.reduceEqDiff, reduceIte, Nat.reduceAdd, Nat.reduceBEq, reduceCtorEq, al26, ap24_24, bd26, bs89_2, fa26_0, fa26_1, ix24, ix62, ld3, ld24, ld26, ln24, ln62, sn24, sl24, st24, st26, h2, h3, h4, h6, h7, h48, h49, h50, (q.rd 0 rfl).2, hwi]
        refine ⟨(i + 1, a9, c9), by simp only; omega, rfl, hc', ?_, ?_⟩
        · rw [List.take_succ_eq_append_getElem hc', List.all_append, hall, List.all_cons, List.all_nil, hk, ← hrl, hb']; rfl
        · simp only
          rw [hstep, List.length_append]
          exact q'
      · have hkx : da[i] = k := by rw [← hk]; unfold idxP; rw [if_neg (by simpa using hx)]; try rw [hrl]
        have hkw := hkx
        simp -implicitDefEqProofs only [kz, kk0, kk1, kk2, kk3, ↓two_true, ↓two_false, oS_some, oM_some, mkv, aggAt, Nat.reduceLeDiff, Nat.reduceSub, Nat.reduceMul, implies_true, Nat.reduceEqDiff, reduceIte, Nat.reduceAdd, Nat.reduceBEq, reduceCtorEq, al26, ap24_24, bd26, bs89_2, fa26_0, fa26_1, ix24, ix62, ld3, ld24, ld26, ln24, ln62, sn24, sl24, st24, st26, h2, h3, h4, h6, h7, h48, h49, h50, hkw, hwl, within_eq]
        refine two_intro (fun hb => ?_) (fun hb => ?_)
        · simp -implicitDefEqProofs only [kz, kk0, kk1, kk2, kk3, ↓two_true, ↓two_false, oS_some, oM_some, mkv, aggAt, Nat.reduceLeDiff, Nat.reduceSub, Nat.reduceMul, implies_true, Nat.reduceEqDiff, reduceIte, Nat.reduceAdd, Nat.reduceBEq, reduceCtorEq, al26, ap24_24, bd26, bs89_2, fa26_0, fa26_1, ix24, ix62, ld3, ld24, ld26, ln24, ln62, sn24, sl24, st24, st26, h2, h3, h4, h6, h7, (q.rd 5 rfl).2, rd_own (set_at (k' := ⟨[.slice none 0 0, .slice none 0 0], .own⟩) (q.ok 5 _ rfl))]
          exact bad (by simpa using hb) _
        have hb' : inB k 0 ((rs.length : Int) - 1) = true := by simpa using hb
        have hkr : 0 ≤ k ∧ k ≤ (rs.length : Int) - 1 := by simpa [inB] using hb'
        obtain ⟨kn, rfl⟩ : ∃ kn : Nat, k = kn := ⟨k.toNat, by omega⟩
        have hkn : kn < rs.length := by omega
        obtain ⟨b8, o8, cs8, p8, q8, ei8, hr8, hp8, hq8, -, hi8⟩ := ixR (q.rows 4 rfl).1 hkn
        obtain ⟨t8, s8, e8, -⟩ := hi8.op
        subst e8
        have hrl8 := (hrow kn rs[kn] (List.getElem?_eq_getElem hkn)).2.2.2.2
        rw [hk, Int.toNat_natCast, List.getElem?_eq_getElem hkn, Option.getD_some] at hstep
        simp -implicitDefEqProofs only [kz, kk0, kk1, kk2, kk3, ↓two_true, ↓two_false, oS_some, oM_some, mkv, aggAt, Nat.reduceLeDiff, Nat.reduceSub, Nat.reduceMul, implies_true, Nat.reduceEqDiff, reduceIte, Nat.reduceAdd, Nat.reduceBEq, reduceCtorEq, al26, ap24_24, bd26, bs89_2, fa26_0, fa26_1, ix24, ix62, ld3, ld24, ld26, ln24, ln62, sn24, sl24, st24, st26, h2, h3, h4, h6, h7, h48, h49, h50, (q.rd 0 rfl).1, ei8, hr8, hq8, hkw]
        refine oA_own (q.own 1 rfl) hi8 (by omega) fun a9 c9 H6 o9 x9 => ?_
        have q := q.push 1 rfl o9 x9
        have q' := q.set 0 rfl [.slice xa S.length xc, .slice a9 ((pickD (sb.headD 0) rs (da.take i)).length + rs[kn].2.length) c9]
        simp -implicitDefEqProofs only [kz, kk0, kk1, kk2, kk3, ↓two_true, ↓two_false, oS_some, oM_some, mkv, aggAt, Nat.reduceLeDiff, Nat.reduceSub, Nat.reduceMul, implies_true, Nat.reduceEqDiff, reduceIte, Nat.reduceAdd, Nat.reduceBEq, reduceCtorEq, al26, ap24_24, bd26, bs89_2, fa26_0, fa26_1, ix24, ix62, ld3, ld24, ld26, ln24, ln62, sn24, sl24, st24, st26, h2, h3, h4, h6, h7, h48, h49, h50, (q.rd 0 rfl).2, hwi]
        refine ⟨(i + 1, a9, c9), by simp only; omega, rfl, hc', ?_, ?_⟩
        · rw [List.take_succ_eq_append_getElem hc', List.all_append, hall, List.all_cons, List.all_nil, hk, ← hrl, hb']; rfl
        · simp only
          rw [hstep, List.length_append]
          exact q'
    · have hil : i = da.length := Nat.le_antisymm hi (Nat.not_lt.1 (by simpa using hc))
      subst hil
      rw [List.take_length] at q hall
      have hpk := hpick hall
      obtain ⟨D, hD⟩ : ∃ D, pickD (sb.headD 0) rs da = D := ⟨_, rfl⟩
      have hlD : D.length ≤ 90000 := by
        have h1 := pickD_len (l := da) v2 hne hall
        rw [hrs, hD] at h1
        have h3 := sizeI_le (l := sb.tail)
        have h4 : da.length ≤ 300 := arrOk_len v1
        have : (D.length : Int) ≤ 300 * 300 := by
          rw [h1]
          rcases Int.lt_or_le (sizeI sb.tail) 0 with h5 | h5
          · have : (da.length : Int) * sizeI sb.tail ≤ 0 := Int.mul_nonpos_of_nonneg_of_nonpos (by omega) (by omega)
            omega
          · exact Int.mul_le_mul (by omega) h3 h5 (by omega)
        omega
      rw [hD] at q hpk
      rw [if_pos hall, hD]
      simp -implicitDefEqProofs only [kz, kk0, kk1, kk2, kk3, ↓two_true, ↓two_false, oS_some, oM_some, mkv, aggAt, Nat.reduceLeDiff, Nat.reduceSub, Nat.reduceMul, implies_true, Nat.reduceEqDiff, reduceIte, Nat.reduceAdd, Nat.reduceBEq, reduceCtorEq, al26, ap24_24, bd26, bs89_2, fa26_0, fa26_1, ix24, ix62, ld3, ld24, ld26, ln24, ln62, sn24, sl24, st24, st26, h2, h3, h4, h6, h7, (q.rd 0 rfl).1]
      refine (implOk_ar (q.ar 2 1 rfl rfl (by omega) (by omega))).mono ?_
      rintro _ H6 ⟨rfl, he⟩
      have q := q.extd he
      have w := q.set 5 rfl [.slice xa S.length xc, .slice av D.length cv]
      simp -implicitDefEqProofs only [kz, kk0, kk1, kk2, kk3, ↓two_true, ↓two_false, oS_some, oM_some, mkv, aggAt, Nat.reduceLeDiff, Nat.reduceSub, Nat.reduceMul, implies_true, Nat.reduceEqDiff, reduceIte, Nat.reduceAdd, Nat.reduceBEq, reduceCtorEq, al26, ap24_24, bd26, bs89_2, fa26_0, fa26_1, ix24, ix62, ld3, ld24, ld26, ln24, ln62, sn24, sl24, st24, st26, h2, h3, h4, h6, h7, (q.rd 0 rfl).1, (q.rd 5 rfl).2, rd_own (set_at (k' := ⟨[.slice none 0 0, .slice none 0 0], .own⟩) (q.ok 5 _ rfl)), (w.rd 5 rfl).1]
      rw [hpk]
      refine two_intro (fun u => ?_) (fun u => ?_)
      · rw [if_pos (by simpa using u)]
        exact Ans1.err (q.set 5 rfl _)
      · rw [if_neg (by simpa using u)]
        exact w.ans 2 1 (by decide) rfl rfl
theorem TabOk.ownOk {B : Nat → Prop} {H : AH} {v : Value} {ks : List CK} {n : Nat} {xs : List Value} (s : Nat) (hs : ks.length = s) (h : TabOk B H v ks n xs) : Go.Proofs.Ytpclegiocblpmaa.AM.ownOk v s H = true := by
  subst hs
  rcases h.row with ⟨rfl, rfl⟩ | ⟨b, o, cs, rfl, h1, h2, h3⟩
  · simp [Go.Proofs.Ytpclegiocblpmaa.AM.ownOk]
  · simp [Go.Proofs.Ytpclegiocblpmaa.AM.ownOk, h1]
/-- An element of a table that is only read: its rows, held as rows that are only read. -/
theorem LX.elem {c0 : Option Nat} {H0 H : AH} {L : List Ix} {v : Value} {n : Nat} {xs : List Value} {rs : List (List Int × List Int)} {k : Nat} (q : LX c0 H0 H L) (i : Nat) (hi : L[i]? = some (.ftab v [.r, .r] n xs (rowsV rs))) (hk : k < rs.length) :
    ∃ b o cs p p', v = .slice (some ⟨b, o, none⟩) n 2 ∧ Go.Proofs.Ytpclegiocblpmaa.AM.rd H b = some cs ∧ cs[o + k * 2]? = some p ∧ cs[o + k * 2 + 1]? = some p' ∧ LX c0 H0 H (.fro p rs[k].1 :: .fro p' rs[k].2 :: L) := by
  obtain ⟨B, h⟩ := q
  obtain ⟨t1, t2⟩ := h.ok i _ hi
  have hn : n = rs.length := (FRow.rows t1.fr t2).2
  have hl := t1.fr.len
  simp only [List.length_cons, List.length_nil] at hl
  rcases t1.fr.row with ⟨_, e⟩ | ⟨b, o, cs, e, h2, h3, h4⟩
  · omega
  · obtain ⟨g1, g2⟩ := rowsV_get hk
    have e0 := List.getElem?_eq_getElem (l := xs) (i := k * 2) (by omega)
    have e1 := List.getElem?_eq_getElem (l := xs) (i := k * 2 + 1) (by omega)
    have k0 := t1.fr.ok k 0 .r (xs[k * 2]'(by omega)) (by omega) rfl e0
    have k1 := t1.fr.ok k 1 .r _ (by omega) rfl e1
    rw [← t2] at g1 g2
    simp only [cvs, List.getElem?_map, e0, e1, Option.map_some, cv_row k0.1, cv_row k1.1, Option.some.injEq, CV.r.injEq] at g1 g2
    refine ⟨b, o, cs, _, _, by rw [e]; rfl, h2, h4 _ _ e0, by rw [Nat.add_assoc]; exact h4 _ _ e1, B, ?_⟩
    have m0 : ∀ g, blkOf (xs[k * 2]'(by omega)) = some g → B g := fun g hg => t1.base g (.inr ⟨_, List.getElem_mem _, hg⟩)
    have m1 : ∀ g, blkOf (xs[k * 2 + 1]'(by omega)) = some g → B g := fun g hg => t1.base g (.inr ⟨_, List.getElem_mem _, hg⟩)
    have h5 : LB B c0 H0 H (.fro _ rs[k].2 :: L) := h.add (x := .fro (xs[k * 2 + 1]'(by omega)) rs[k].2) (Nat.le_refl _) (fun b hb _ => rfl) h.cur ⟨by rw [← g2]; exact k1.1, m1⟩ fun b hb => hb.elim
    exact h5.add (x := .fro (xs[k * 2]'(by omega)) rs[k].1) (Nat.le_refl _) (fun b hb _ => rfl) h.cur ⟨by rw [← g1]; exact k0.1, m0⟩ fun b hb => hb.elim

theorem IntRow.tl {H : AH} {a : Option Addr} {n c : Nat} {l : List Int} (h : IntRow H (.slice a n c) l) (h1 : 1 ≤ l.length) : ∃ a' c', aSlice Try.prog 24 (.slice a n c) (some (.int .i64 1)) none = some (.slice a' l.tail.length c') ∧ IntRow H (.slice a' l.tail.length c') l.tail := by
  have hn : n = l.length := by
    obtain ⟨a', c', e, _⟩ := h.op
    injection e
  subst hn
  obtain ⟨t, y, e1, e2, -⟩ := IntRow.sl (P := Try.prog) (t := 24) (e := 3) (lo := some (.int .i64 1)) (hi := none) (x := 1) (y := l.length) Try.underlying24 (by kernel_rfl) h rfl rfl h1 (Nat.le_refl _)
  have e3 : (l.drop 1).take (l.length - 1) = l.tail := by rw [List.drop_one, List.take_of_length_le (by simp)]
  have e4 : l.length - 1 = l.tail.length := by simp
  rw [e3, e4] at e2
  rw [e4] at e1
  exact ⟨t, y, e1, e2⟩

theorem arrOk_size {sh dt : List Int} (h : arrOk sh dt = true) : sizeI sh = dt.length ∧ dt.length ≤ 300 := by
  have := arrOk_len h
  unfold arrOk at h
  simp only [Bool.and_eq_true, beq_iff_eq] at h
  exact ⟨h.1.symm, this⟩
set_option maxHeartbeats 4000000 in
theorem l3VectorA_ok {H : AH} {v : Value} {l : List Int} (hv : IntRow H v l) (hl : l.length ≤ 1048576) : CallsA Try.prog 48 #[v] H fun r H' => AnsA H H' r ([(l.length : Int)], l) := l3Vector_ok hv hl

theorem ARes.ans {H H' : AH} {r : Value} {R : (List Int × List Int) × Int} (h : ARes H H' r R) : Ans1 H H' r R := by
  obtain ⟨⟨a, c, b, d, rfl, h1, h2, h3, h4, h5, h6⟩, he⟩ := h
  exact ⟨_, _, rfl, ((LD.nil (H := H)).nrow2 (H' := H') ⟨h2, h5⟩ ⟨h3, h6⟩ h4 he)⟩

def iotaL (n : Nat) : List Int := (List.range n).map fun i : Nat => (i : Int)
theorem iotaL_succ {n : Nat} : iotaL (n + 1) = iotaL n ++ [(n : Int)] := by unfold iotaL; rw [List.range_succ, List.map_append, List.map_cons, List.map_nil]
theorem iotaL_len {n : Nat} : (iotaL n).length = n := by simp [iotaL]
/-- The strict order of indices: by their keys, then by themselves. -/
def slt (D : Int → Int) (x y : Int) : Prop := D x < D y ∨ (D x = D y ∧ x < y)
theorem slt_trans {D : Int → Int} {x y z : Int} (h : slt D x y) (h' : slt D y z) : slt D x z := by unfold slt at *; omega
theorem slt_irr {D : Int → Int} {x : Int} : ¬ slt D x x := by unfold slt; omega
theorem slt_asym {D : Int → Int} {x y : Int} (h : slt D x y) : ¬ slt D y x := by unfold slt at *; omega
/-- What stands at a place. -/
def gx (l : List Int) (i : Nat) : Int := l.getD i 0
theorem gx_get {l : List Int} {i : Nat} (h : i < l.length) : l[i]? = some (gx l i) := by
  simp [gx, List.getD_eq_getElem?_getD, List.getElem?_eq_getElem h]
theorem gx_of {l : List Int} {i : Nat} {x : Int} (h : l[i]? = some x) : gx l i = x := by
  simp [gx, List.getD_eq_getElem?_getD, h]
set_option maxHeartbeats 4000000 in
theorem gx_el {l : List Int} {i : Nat} (h : i < l.length) : l[i] = gx l i := by
  have := gx_get h; rw [List.getElem?_eq_getElem h] at this; exact Option.some.inj this
def swp (l : List Int) (i j : Nat) : List Int := (l.set i (gx l j)).set j (gx l i)
theorem swp_len {l : List Int} {i j : Nat} : (swp l i j).length = l.length := by simp [swp]
theorem gx_set {l : List Int} {i x : Nat} {v : Int} (hi : i < l.length) : gx (l.set i v) x = if x = i then v else gx l x := by
  unfold gx
  rw [List.getD_eq_getElem?_getD, List.getD_eq_getElem?_getD, List.getElem?_set]
  by_cases h : i = x
  · subst h; simp [hi]
  · rw [if_neg h, if_neg (fun e => h e.symm)]
theorem gx_swp {l : List Int} {i j x : Nat} (hi : i < l.length) (hj : j < l.length) : gx (swp l i j) x = if x = j then gx l i else if x = i then gx l j else gx l x := by
  unfold swp
  rw [gx_set (by simpa using hj), gx_set hi]
theorem swp_perm {l : List Int} {i j : Nat} (hi : i < l.length) (hj : j < l.length) : (swp l i j).Perm l := by
  unfold swp
  rw [← gx_el hi, ← gx_el hj]
  exact List.set_set_perm hi hj
/-- The places from one to another are sorted. -/
def SortS (D : Int → Int) (l : List Int) (a b : Nat) : Prop := ∀ i j, a ≤ i → i < j → j < b → slt D (gx l i) (gx l j)
/-- What stands between two places was moved there, and no more. -/
structure Mv (l l' : List Int) (a b : Nat) : Prop where
  perm : l'.Perm l
  out : ∀ i, i < a ∨ b ≤ i → gx l' i = gx l i
  inn : ∀ i, a ≤ i → i < b → ∃ j, a ≤ j ∧ j < b ∧ gx l' i = gx l j
theorem Mv.len {l l' : List Int} {a b : Nat} (h : Mv l l' a b) : l'.length = l.length := h.perm.length_eq
theorem Mv.refl {l : List Int} {a b : Nat} : Mv l l a b := ⟨List.Perm.refl _, fun _ _ => rfl, fun i h1 h2 => ⟨i, h1, h2, rfl⟩⟩
theorem Mv.trans {l l' l'' : List Int} {a b : Nat} (h : Mv l l' a b) (h' : Mv l' l'' a b) : Mv l l'' a b :=
  ⟨h'.perm.trans h.perm, fun i hi => by rw [h'.out i hi, h.out i hi], fun i h1 h2 => by
    obtain ⟨j, j1, j2, e⟩ := h'.inn i h1 h2
    obtain ⟨k, k1, k2, e2⟩ := h.inn j j1 j2
    exact ⟨k, k1, k2, by rw [e, e2]⟩⟩
theorem Mv.wide {l l' : List Int} {a b a' b' : Nat} (h : Mv l l' a b) (ha : a' ≤ a) (hb : b ≤ b') : Mv l l' a' b' :=
  ⟨h.perm, fun i hi => h.out i (by omega), fun i h1 h2 => by
    by_cases hc : a ≤ i ∧ i < b
    · obtain ⟨j, j1, j2, e⟩ := h.inn i hc.1 hc.2; exact ⟨j, by omega, by omega, e⟩
    · exact ⟨i, h1, h2, h.out i (by omega)⟩⟩
theorem Mv.swp {l : List Int} {a b i j : Nat} (hi : a ≤ i) (hi2 : i < b) (hj : a ≤ j) (hj2 : j < b) (hb : b ≤ l.length) : Mv l (swp l i j) a b :=
  ⟨swp_perm (by omega) (by omega), fun x hx => by rw [gx_swp (by omega) (by omega), if_neg (by omega), if_neg (by omega)], fun x h1 h2 => by
    rw [gx_swp (by omega) (by omega)]
    split
    · exact ⟨i, hi, hi2, rfl⟩
    · split
      · exact ⟨j, hj, hj2, rfl⟩
      · exact ⟨x, h1, h2, rfl⟩⟩
theorem SortS.mv {D : Int → Int} {l l' : List Int} {a b : Nat} (h : SortS D l a b) (he : ∀ i, a ≤ i → i < b → gx l' i = gx l i) : SortS D l' a b := fun i j h1 h2 h3 => by
  rw [he i h1 (by omega), he j (by omega) h3]; exact h i j h1 h2 h3
/-- One step of putting an element in: what stands ahead of it and behind it is sorted. -/
structure Ins1 (D : Int → Int) (l : List Int) (a i j : Nat) : Prop where
  s1 : ∀ p q, a ≤ p → p < q → q ≤ i → p ≠ j → q ≠ j → slt D (gx l p) (gx l q)
  s2 : ∀ q, j < q → q ≤ i → slt D (gx l j) (gx l q)
  s3 : ∀ p, a ≤ p → p < j → gx l p < gx l j
theorem Ins1.start {D : Int → Int} {l : List Int} {a i : Nat} (h : SortS D l a i) (h3 : ∀ p, a ≤ p → p < i → gx l p < gx l i) : Ins1 D l a i i :=
  ⟨fun p q h1 h2 h3 h4 h5 => h p q h1 h2 (by omega), fun q h1 h2 => by omega, h3⟩
theorem Ins1.step {D : Int → Int} {l : List Int} {a i j : Nat} (h : Ins1 D l a i (j + 1)) (hj : a ≤ j) (hi : j + 1 ≤ i) (hl : i < l.length) (hd : D (gx l (j + 1)) < D (gx l j)) : Ins1 D (Go.Proofs.Ytpclegiocblpmaa.AM.swp l (j + 1) j) a i j := by
  have e := fun x => gx_swp (l := l) (i := j + 1) (j := j) (x := x) (by omega) (by omega)
  refine ⟨fun p q h1 h2 h3 h4 h5 => ?_, fun q h1 h2 => ?_, fun p h1 h2 => ?_⟩
  · rw [e p, e q, if_neg h4, if_neg h5]
    by_cases hp : p = j + 1
    · rw [if_pos hp, if_neg (by omega)]
      exact h.s1 j q hj (by omega) h3 (by omega) (by omega)
    · rw [if_neg hp]
      by_cases hq : q = j + 1
      · rw [if_pos hq]; exact h.s1 p j h1 (by omega) (by omega) hp (by omega)
      · rw [if_neg hq]; exact h.s1 p q h1 h2 h3 hp hq
  · rw [e j, e q, if_pos rfl, if_neg (by omega)]
    by_cases hq : q = j + 1
    · rw [if_pos hq]; exact .inl hd
    · rw [if_neg hq]; exact h.s2 q (by omega) h2
  · rw [e j, e p, if_pos rfl, if_neg (by omega), if_neg (by omega)]
    exact h.s3 p h1 (by omega)
theorem Ins1.stop0 {D : Int → Int} {l : List Int} {a i : Nat} (h : Ins1 D l a i a) : SortS D l a (i + 1) := fun p q h1 h2 h3 => by
  by_cases hp : p = a
  · subst hp; exact h.s2 q h2 (by omega)
  · exact h.s1 p q h1 h2 (by omega) hp (by omega)
theorem Ins1.stop {D : Int → Int} {l : List Int} {a i j : Nat} (h : Ins1 D l a i (j + 1)) (hj : a ≤ j) (hi : j + 1 ≤ i) (hd : ¬ D (gx l (j + 1)) < D (gx l j)) : SortS D l a (i + 1) := fun p q h1 h2 h3 => by
  by_cases hp : p = j + 1
  · subst hp; exact h.s2 q h2 (by omega)
  · by_cases hq : q = j + 1
    · subst hq
      have h4 : slt D (gx l j) (gx l (j + 1)) := by have := h.s3 j hj (by omega); unfold slt; omega
      by_cases hp2 : p = j
      · subst hp2; exact h4
      · exact slt_trans (h.s1 p j h1 (by omega) (by omega) hp (by omega)) h4
    · exact h.s1 p q h1 h2 (by omega) hp hq
/-- What stands ahead of a place stands behind what stood there. -/
def Rot (l l' : List Int) (a m b : Nat) : Prop := ∀ x, gx l' x = if a ≤ x ∧ x < a + (b - m) then gx l (x + (m - a)) else if a + (b - m) ≤ x ∧ x < b then gx l (x - (b - m)) else gx l x
/-- As many of one place on are changed with those from another on. -/
def Swr (l l' : List Int) (a b n : Nat) : Prop := ∀ x, gx l' x = if a ≤ x ∧ x < a + n then gx l (x + (b - a)) else if b ≤ x ∧ x < b + n then gx l (x - (b - a)) else gx l x
theorem Rot.left {l l' t : List Int} {m i j : Nat} (hi : i ≤ m) (hij : j < i) (h : Swr l l' (m - i) m j) (hr : Rot l' t (m - i + j) m (m + j)) : Rot l t (m - i) m (m + j) := by
  have h2 : ∀ x, gx l' x = _ := h
  intro x
  rw [hr x]
  simp only [h2]
  repeat' split
  all_goals first | rfl | omega | (congr 1; omega)
theorem Rot.right {l l' t : List Int} {m i j : Nat} (hi : i ≤ m) (hij : i < j) (h : Swr l l' (m - i) (m + j - i) i) (hr : Rot l' t (m - i) m (m + (j - i))) : Rot l t (m - i) m (m + j) := by
  have h2 : ∀ x, gx l' x = _ := h
  intro x
  rw [hr x]
  simp only [h2]
  repeat' split
  all_goals first | rfl | omega | (congr 1; omega)
theorem Rot.same {l l' : List Int} {m i : Nat} (hi : i ≤ m) (h : Swr l l' (m - i) m i) : Rot l l' (m - i) m (m + i) := by
  intro x
  rw [h x]
  repeat' split
  all_goals first | rfl | omega | (congr 1; omega)
theorem Swr.zero {l : List Int} {a b : Nat} : Swr l l a b 0 := fun x => by rw [if_neg (by omega), if_neg (by omega)]
theorem Swr.step {l l' : List Int} {a b n : Nat} (h : Swr l l' a b n) (hab : a + n < b) (hl : b + n < l'.length) : Swr l (Go.Proofs.Ytpclegiocblpmaa.AM.swp l' (a + n) (b + n)) a b (n + 1) := by
  have h2 : ∀ x, gx l' x = _ := h
  intro x
  rw [gx_swp (by omega) hl]
  simp only [h2]
  repeat' split
  all_goals first | rfl | omega | (congr 1; omega)
/-- The indices of one row all stand ahead of those of the other one. -/
def Ahd (l : List Int) (a m b : Nat) : Prop := ∀ p q, a ≤ p → p < m → m ≤ q → q < b → gx l p < gx l q
/-- What a place is moved up. -/
def Up1 (l l' : List Int) (a k : Nat) : Prop := ∀ x, gx l' x = if a ≤ x ∧ x < k then gx l (x + 1) else if x = k then gx l a else gx l x
theorem Up1.zero {l : List Int} {a : Nat} : Up1 l l a a := fun x => by
  rw [if_neg (by omega)]; split
  · rename_i h; subst h; rfl
  · rfl
theorem Up1.step {l l' : List Int} {a k : Nat} (h : Up1 l l' a k) (hk : a ≤ k) (hl : k + 1 < l'.length) : Up1 l (Go.Proofs.Ytpclegiocblpmaa.AM.swp l' k (k + 1)) a (k + 1) := by
  intro x
  rw [gx_swp (by omega) hl]
  by_cases h1 : x = k + 1
  · subst h1
    rw [if_pos rfl, if_neg (by omega), if_pos rfl, h k, if_neg (by omega), if_pos rfl]
  · rw [if_neg h1]
    by_cases h2 : x = k
    · subst h2
      rw [if_pos rfl, if_pos (by omega), h, if_neg (by omega), if_neg (by omega)]
    · rw [if_neg h2, h x]
      by_cases h3 : a ≤ x ∧ x < k
      · rw [if_pos h3, if_pos (by omega)]
      · rw [if_neg h3, if_neg h2, if_neg (by omega), if_neg h1]
/-- What a place is moved down. -/
def Dn1 (l l' : List Int) (k m : Nat) : Prop := ∀ x, gx l' x = if k < x ∧ x ≤ m then gx l (x - 1) else if x = k then gx l m else gx l x
theorem Dn1.zero {l : List Int} {m : Nat} : Dn1 l l m m := fun x => by
  rw [if_neg (by omega)]; split
  · rename_i h; subst h; rfl
  · rfl
theorem Dn1.step {l l' : List Int} {k m : Nat} (h : Dn1 l l' (k + 1) m) (hk : k + 1 ≤ m) (hl : k + 1 < l'.length) : Dn1 l (Go.Proofs.Ytpclegiocblpmaa.AM.swp l' (k + 1) k) k m := by
  intro x
  rw [gx_swp hl (by omega)]
  by_cases h1 : x = k
  · subst h1
    rw [if_pos rfl, if_neg (by omega), if_pos rfl, h, if_neg (by omega), if_pos rfl]
  · rw [if_neg h1]
    by_cases h2 : x = k + 1
    · subst h2
      rw [if_pos rfl, if_pos (by omega), h k, if_neg (by omega), if_neg (by omega)]
      congr 1
    · rw [if_neg h2, h x]
      by_cases h3 : k + 1 < x ∧ x ≤ m
      · rw [if_pos h3, if_pos (by omega)]
      · rw [if_neg h3, if_neg h2, if_neg (by omega), if_neg h1]
/-- One in front is put into its place. -/
theorem merge_front {D : Int → Int} {l l' : List Int} {a i b : Nat} (hs : SortS D l (a + 1) b) (hx : Ahd l a (a + 1) b) (hi : a + 1 ≤ i) (hib : i ≤ b)
    (h1 : ∀ x, a + 1 ≤ x → x < i → D (gx l x) < D (gx l a)) (h2 : ∀ x, i ≤ x → x < b → ¬ D (gx l x) < D (gx l a)) (hu : Up1 l l' a (i - 1)) : SortS D l' a b := by
  intro p q hp hpq hq
  rw [hu p, hu q]
  by_cases c1 : q < i - 1
  · rw [if_pos (by omega), if_pos (by omega)]; exact hs _ _ (by omega) (by omega) (by omega)
  · rw [if_neg (c := a ≤ q ∧ q < i - 1) (by omega)]
    by_cases c2 : q = i - 1
    · rw [if_pos c2, if_pos (by omega)]
      exact .inl (h1 _ (by omega) (by omega))
    · rw [if_neg c2]
      by_cases c3 : p < i - 1
      · rw [if_pos (by omega)]; exact hs _ _ (by omega) (by omega) hq
      · rw [if_neg (by omega)]
        by_cases c4 : p = i - 1
        · rw [if_pos c4]
          have e1 := h2 q (by omega) hq
          have e2 := hx a q (Nat.le_refl _) (by omega) (by omega) hq
          unfold slt; omega
        · rw [if_neg c4]; exact hs _ _ (by omega) hpq hq
/-- One at the end is put into its place. -/
theorem merge_back {D : Int → Int} {l l' : List Int} {a i m : Nat} (hs : SortS D l a m) (hx : Ahd l a m (m + 1)) (hi : a ≤ i) (him : i ≤ m)
    (h1 : ∀ x, a ≤ x → x < i → ¬ D (gx l m) < D (gx l x)) (h2 : ∀ x, i ≤ x → x < m → D (gx l m) < D (gx l x)) (hu : Dn1 l l' i m) : SortS D l' a (m + 1) := by
  intro p q hp hpq hq
  rw [hu p, hu q]
  by_cases c1 : i < p
  · rw [if_pos (by omega), if_pos (by omega)]; exact hs _ _ (by omega) (by omega) (by omega)
  · rw [if_neg (c := i < p ∧ p ≤ m) (by omega)]
    by_cases c2 : p = i
    · rw [if_pos c2, if_pos (by omega)]
      exact .inl (h2 _ (by omega) (by omega))
    · rw [if_neg c2]
      by_cases c3 : i < q
      · rw [if_pos (by omega)]; exact hs _ _ hp (by omega) (by omega)
      · rw [if_neg (by omega)]
        by_cases c4 : q = i
        · rw [if_pos c4]
          have e1 := h1 p hp (by omega)
          have e2 := hx p m hp (by omega) (Nat.le_refl _) (by omega)
          unfold slt; omega
        · rw [if_neg c4]; exact hs _ _ hp hpq (by omega)
theorem slt_le {D : Int → Int} {x y : Int} (h : slt D x y) : D x ≤ D y := by unfold slt at h; omega
theorem SortS.le {D : Int → Int} {l : List Int} {a b : Nat} (h : SortS D l a b) {i j : Nat} (h1 : a ≤ i) (h2 : i ≤ j) (h3 : j < b) : D (gx l i) ≤ D (gx l j) := by
  rcases Nat.lt_or_ge i j with h4 | h4
  · exact slt_le (h i j h1 h4 h3)
  · have : i = j := by omega
    subst this; exact Int.le_refl _
/-- After a turn about the middle all on the left stand ahead of all on the right. -/
theorem halves_cross {D : Int → Int} {l t : List Int} {a st m en mid b : Nat} (h1 : SortS D l a m) (h2 : SortS D l m b) (hx : Ahd l a m b) (hr : Rot l t st m en) (ha : a ≤ st) (hsm : st ≤ m) (hme : m ≤ en) (heb : en ≤ b) (hmid : mid + m = st + en)
    (p1 : a < st → en < b → ¬ D (gx l en) < D (gx l (st - 1))) (p2 : st < m → m < en → D (gx l (en - 1)) < D (gx l st)) (p q : Nat) (hp : a ≤ p) (hp2 : p < mid) (hq : mid ≤ q) (hq2 : q < b) : slt D (gx t p) (gx t q) := by
  rw [hr p, hr q, if_neg (c := st ≤ q ∧ q < st + (en - m)) (by omega)]
  by_cases c1 : p < st
  · rw [if_neg (by omega), if_neg (by omega)]
    by_cases c2 : q < en
    · rw [if_pos (by omega)]; exact h1 _ _ hp (by omega) (by omega)
    · rw [if_neg (by omega)]
      have e1 := p1 (by omega) (by omega)
      have e2 := hx (st - 1) en (by omega) (by omega) hme (by omega)
      have e3 : slt D (gx l (st - 1)) (gx l en) := by unfold slt; omega
      have e4 : slt D (gx l p) (gx l en) := by
        rcases Nat.lt_or_ge p (st - 1) with h | h
        · exact slt_trans (h1 p (st - 1) hp h (by omega)) e3
        · have : p = st - 1 := by omega
          subst this; exact e3
      rcases Nat.lt_or_ge en q with h | h
      · exact slt_trans e4 (h2 en q hme h hq2)
      · have : q = en := by omega
        subst this; exact e4
  · rw [if_pos (by omega)]
    by_cases c2 : q < en
    · rw [if_pos (by omega)]
      have e1 := p2 (by omega) (by omega)
      have e2 := h2.le (i := p + (m - st)) (j := en - 1) (by omega) (by omega) (by omega)
      have e3 := h1.le (i := st) (j := q - (en - m)) (by omega) (by omega) (by omega)
      exact .inl (by omega)
    · rw [if_neg (by omega)]; exact h2 _ _ (by omega) (by omega) hq2
theorem halves_left {D : Int → Int} {l t : List Int} {a st m en mid b : Nat} (h1 : SortS D l a m) (h2 : SortS D l m b) (hx : Ahd l a m b) (hr : Rot l t st m en) (ha : a ≤ st) (hsm : st ≤ m) (hme : m ≤ en) (heb : en ≤ b) (hmid : mid + m = st + en) :
    SortS D t a st ∧ SortS D t st mid ∧ Ahd t a st mid := by
  refine ⟨fun i j i1 i2 i3 => ?_, fun i j i1 i2 i3 => ?_, fun i j i1 i2 i3 i4 => ?_⟩
  · rw [hr i, hr j, if_neg (by omega), if_neg (by omega), if_neg (by omega), if_neg (by omega)]; exact h1 i j i1 i2 (by omega)
  · rw [hr i, hr j, if_pos (by omega), if_pos (by omega)]; exact h2 _ _ (by omega) (by omega) (by omega)
  · rw [hr i, hr j, if_neg (by omega), if_neg (by omega), if_pos (by omega)]; exact hx _ _ i1 (by omega) (by omega) (by omega)
theorem halves_right {D : Int → Int} {l t : List Int} {a st m en mid b : Nat} (h1 : SortS D l a m) (h2 : SortS D l m b) (hx : Ahd l a m b) (hr : Rot l t st m en) (ha : a ≤ st) (hsm : st ≤ m) (hme : m ≤ en) (heb : en ≤ b) (hmid : mid + m = st + en) :
    SortS D t mid en ∧ SortS D t en b ∧ Ahd t mid en b := by
  refine ⟨fun i j i1 i2 i3 => ?_, fun i j i1 i2 i3 => ?_, fun i j i1 i2 i3 i4 => ?_⟩
  · rw [hr i, hr j, if_neg (by omega), if_pos (by omega), if_neg (by omega), if_pos (by omega)]; exact h1 _ _ (by omega) (by omega) (by omega)
  · rw [hr i, hr j, if_neg (by omega), if_neg (by omega), if_neg (by omega), if_neg (by omega)]; exact h2 _ _ (by omega) (by omega) (by omega)
  · rw [hr i, hr j, if_neg (by omega), if_pos (by omega), if_neg (by omega), if_neg (by omega)]; exact hx _ _ (by omega) (by omega) (by omega) (by omega)
theorem halves_join {D : Int → Int} {t t1 t2 : List Int} {a mid b : Nat} (hc : ∀ p q, a ≤ p → p < mid → mid ≤ q → q < b → slt D (gx t p) (gx t q))
    (m1 : Mv t t1 a mid) (m2 : Mv t1 t2 mid b) (s1 : SortS D t1 a mid) (s2 : SortS D t2 mid b) : SortS D t2 a b := by
  intro p q hp hpq hq
  by_cases c1 : q < mid
  · rw [m2.out p (by omega), m2.out q (by omega)]; exact s1 p q hp hpq c1
  · by_cases c2 : mid ≤ p
    · exact s2 p q c2 hpq hq
    · rw [m2.out p (by omega)]
      obtain ⟨p', h1, h2, e1⟩ := m1.inn p hp (by omega)
      obtain ⟨q', h3, h4, e2⟩ := m2.inn q (by omega) hq
      rw [e1, e2, m1.out q' (by omega)]
      exact hc p' q' h1 h2 h3 h4
theorem Rot.self {l : List Int} {a m b : Nat} (h : a ≥ m ∨ m ≥ b) : Rot l l a m b := fun x => by
  by_cases h1 : a ≤ x ∧ x < a + (b - m)
  · rw [if_pos h1]; congr 1; omega
  · rw [if_neg h1]
    by_cases h2 : a + (b - m) ≤ x ∧ x < b
    · rw [if_pos h2]; congr 1; omega
    · rw [if_neg h2]
/-- What stands between two places stood there ahead, too. -/
def MvI (l0 l : List Int) (a b : Nat) : Prop := ∀ i, a ≤ i → i < b → ∃ j, a ≤ j ∧ j < b ∧ gx l i = gx l0 j
def AscS (l0 : List Int) (n : Nat) : Prop := ∀ i j, i < j → j < n → gx l0 i < gx l0 j
/-- So many blocks are sorted. -/
def Bks (D : Int → Int) (l0 l : List Int) (S K : Nat) : Prop := ∀ k, k < K → SortS D l (k * S) (k * S + S) ∧ MvI l0 l (k * S) (k * S + S)
/-- All blocks are sorted. -/
def Bkd (D : Int → Int) (l0 l : List Int) (S n : Nat) : Prop := ∀ k, k * S < n → SortS D l (k * S) (min (k * S + S) n) ∧ MvI l0 l (k * S) (min (k * S + S) n)
theorem Bks.zero {D : Int → Int} {l0 l : List Int} {S : Nat} : Bks D l0 l S 0 := fun k hk => absurd hk (Nat.not_lt_zero _)
set_option maxHeartbeats 4000000 in
theorem mul_lt_step {k K S : Nat} (h : k < K) : k * S + S ≤ K * S := by
  have := Nat.mul_le_mul_right S (show k + 1 ≤ K from h)
  rwa [Nat.succ_mul] at this
theorem MvI.same {l0 l l' : List Int} {a b : Nat} (h : MvI l0 l a b) (he : ∀ i, a ≤ i → i < b → gx l' i = gx l i) : MvI l0 l' a b := fun i h1 h2 => by
  rw [he i h1 h2]; exact h i h1 h2
theorem Bks.step {D : Int → Int} {l0 l l' : List Int} {S K : Nat} (h : Bks D l0 l S K) (hm : ∀ i, i < K * S → gx l' i = gx l i) (hs : SortS D l' (K * S) (K * S + S)) (hi : MvI l0 l' (K * S) (K * S + S)) : Bks D l0 l' S (K + 1) := by
  intro k hk
  rcases Nat.lt_or_ge k K with h1 | h1
  · have h2 := mul_lt_step (S := S) h1
    obtain ⟨e1, e2⟩ := h k h1
    exact ⟨e1.mv fun i i1 i2 => hm i (by omega), e2.same fun i i1 i2 => hm i (by omega)⟩
  · have : k = K := by omega
    subst this; exact ⟨hs, hi⟩
theorem Bks.done {D : Int → Int} {l0 l l' : List Int} {S K n : Nat} (h : Bks D l0 l S K) (hm : ∀ i, i < K * S → gx l' i = gx l i) (hs : SortS D l' (K * S) n) (hi : MvI l0 l' (K * S) n) (h1 : n ≤ K * S + S) (h2 : K * S ≤ n) : Bkd D l0 l' S n := by
  intro k hk
  rcases Nat.lt_or_ge k K with h3 | h3
  · have h4 := mul_lt_step (S := S) h3
    rw [Nat.min_eq_left (by omega)]
    obtain ⟨e1, e2⟩ := h k h3
    exact ⟨e1.mv fun i i1 i2 => hm i (by omega), e2.same fun i i1 i2 => hm i (by omega)⟩
  · have : k = K := by
      rcases Nat.lt_or_ge K k with h5 | h5
      · have := mul_lt_step (S := S) h5; omega
      · omega
    subst this
    rw [Nat.min_eq_right h1]
    exact ⟨hs, hi⟩
/-- Two blocks of a row that stands as it stood from the first of them on. -/
theorem Bkd.two {D : Int → Int} {l0 ls l : List Int} {S K n : Nat} (h : Bkd D l0 ls S n) (ha : AscS l0 n) (he : ∀ i, K * (2 * S) ≤ i → gx l i = gx ls i) {b : Nat} (hb : b = min (K * (2 * S) + 2 * S) n) (hm : K * (2 * S) + S < n) (hS : 0 < S) :
    SortS D l (K * (2 * S)) (K * (2 * S) + S) ∧ SortS D l (K * (2 * S) + S) b ∧ Ahd l (K * (2 * S)) (K * (2 * S) + S) b ∧ MvI l0 l (K * (2 * S)) b := by
  have e1 : (2 * K) * S = K * (2 * S) := by rw [Nat.mul_comm 2 K, Nat.mul_assoc]
  have e2 : (2 * K + 1) * S = K * (2 * S) + S := by rw [Nat.succ_mul, e1]
  obtain ⟨s1, m1⟩ := h (2 * K) (by omega)
  obtain ⟨s2, m2⟩ := h (2 * K + 1) (by omega)
  rw [e1, Nat.min_eq_left (by omega)] at s1 m1
  rw [e2, show min (K * (2 * S) + S + S) n = b by rw [hb]; congr 1; omega] at s2 m2
  have hbn : b ≤ n := by omega
  have hbm : K * (2 * S) + S ≤ b := by omega
  generalize K * (2 * S) = A at *
  refine ⟨s1.mv fun i i1 _ => he i i1, s2.mv fun i i1 _ => he i (by omega), fun p q p1 p2 q1 q2 => ?_, fun i i1 i2 => ?_⟩
  · obtain ⟨p', a1, a2, x1⟩ := m1 p p1 p2
    obtain ⟨q', b1, b2, x2⟩ := m2 q q1 q2
    rw [he p p1, he q (by omega), x1, x2]
    exact ha p' q' (by omega) (by omega)
  · rw [he i i1]
    by_cases hc : i < A + S
    · obtain ⟨j, a1, a2, x1⟩ := m1 i i1 hc; exact ⟨j, a1, by omega, x1⟩
    · obtain ⟨j, a1, a2, x1⟩ := m2 i (by omega) i2; exact ⟨j, by omega, a2, x1⟩
theorem Bkd.one {D : Int → Int} {l0 ls l : List Int} {S K n : Nat} (h : Bkd D l0 ls S n) (he : ∀ i, K * (2 * S) ≤ i → gx l i = gx ls i) (hm : n ≤ K * (2 * S) + S) :
    SortS D l (K * (2 * S)) n ∧ MvI l0 l (K * (2 * S)) n := by
  have e1 : (2 * K) * S = K * (2 * S) := by rw [Nat.mul_comm 2 K, Nat.mul_assoc]
  rcases Nat.lt_or_ge (K * (2 * S)) n with hlt | hge
  · obtain ⟨s1, m1⟩ := h (2 * K) (by omega)
    rw [e1, Nat.min_eq_right (by omega)] at s1 m1
    exact ⟨s1.mv fun i i1 _ => he i i1, m1.same fun i i1 _ => he i i1⟩
  · exact ⟨fun i j i1 i2 i3 => by omega, fun i i1 i2 => by omega⟩
theorem MvI.mv {l0 l l' : List Int} {a b : Nat} (h : MvI l0 l a b) (hm : Mv l l' a b) : MvI l0 l' a b := fun i i1 i2 => by
  obtain ⟨j, j1, j2, e⟩ := hm.inn i i1 i2
  obtain ⟨k, k1, k2, e2⟩ := h j j1 j2
  exact ⟨k, k1, k2, by rw [e, e2]⟩
/-- There is one such order alone. -/
theorem slt_unique {D : Int → Int} : ∀ {l l' : List Int}, l.Perm l' → l.Pairwise (slt D) → l'.Pairwise (slt D) → l = l'
  | [], l', h, _, _ => by rw [List.nil_perm.1 h]
  | x :: t, [], h, _, _ => by simp at h
  | x :: t, y :: t', h, h1, h2 => by
    have hxy : x = y := by
      have m1 := h.mem_iff.1 (List.mem_cons_self (a := x) (l := t))
      have m2 := h.mem_iff.2 (List.mem_cons_self (a := y) (l := t'))
      rcases List.mem_cons.1 m1 with e | m1
      · exact e
      · rcases List.mem_cons.1 m2 with e | m2
        · exact e.symm
        · exact absurd ((List.pairwise_cons.1 h1).1 y m2) (slt_asym ((List.pairwise_cons.1 h2).1 x m1))
    subst hxy
    rw [slt_unique (List.perm_cons x |>.1 h) (List.pairwise_cons.1 h1).2 (List.pairwise_cons.1 h2).2]
theorem SortS.pw {D : Int → Int} {l : List Int} (h : SortS D l 0 l.length) : l.Pairwise (slt D) := by
  rw [List.pairwise_iff_getElem]
  intro i j hi hj hij
  rw [gx_el hi, gx_el hj]
  exact h i j (Nat.zero_le _) hij hj
/-- A number is put behind those that are not greater. -/
def putG (D : Int → Int) (x : Int) : List Int → List Int
  | [] => [x]
  | y :: t => if D y > D x then x :: y :: t else y :: putG D x t
/-- The indices of a row, as its numbers ascend. -/
def grdG (D : Int → Int) : Nat → List Int
  | 0 => []
  | n + 1 => putG D n (grdG D n)
theorem putG_perm {D : Int → Int} {x : Int} : ∀ {l : List Int}, (putG D x l).Perm (x :: l)
  | [] => List.Perm.refl _
  | y :: t => by
    unfold putG
    split
    · exact List.Perm.refl _
    · exact ((putG_perm (l := t)).cons y).trans (List.Perm.swap _ _ _)
theorem putG_pw {D : Int → Int} {x : Int} : ∀ {l : List Int}, l.Pairwise (slt D) → (∀ y ∈ l, y < x) → (putG D x l).Pairwise (slt D)
  | [], _, _ => by simp [putG]
  | y :: t, h, hx => by
    obtain ⟨h1, h2⟩ := List.pairwise_cons.1 h
    unfold putG
    split
    · rename_i hc
      refine List.pairwise_cons.2 ⟨fun z hz => ?_, h⟩
      rcases List.mem_cons.1 hz with rfl | hz
      · exact .inl hc
      · have := slt_le (h1 z hz); exact .inl (by omega)
    · rename_i hc
      refine List.pairwise_cons.2 ⟨fun z hz => ?_, putG_pw h2 fun z hz => hx z (List.mem_cons_of_mem _ hz)⟩
      rcases List.mem_cons.1 (putG_perm.mem_iff.1 hz) with rfl | hz
      · have := hx y (List.mem_cons_self ..); unfold slt; omega
      · exact h1 z hz
theorem grdG_perm {D : Int → Int} : ∀ {n : Nat}, (grdG D n).Perm ((List.range n).map fun i : Nat => (i : Int))
  | 0 => by simp [grdG]
  | n + 1 => by
    rw [List.range_succ, List.map_append]
    exact (putG_perm.trans ((grdG_perm (n := n)).cons _)).trans (List.perm_append_singleton _ _).symm
theorem grdG_mem {D : Int → Int} {n : Nat} {y : Int} (h : y ∈ grdG D n) : 0 ≤ y ∧ y < n := by
  have := grdG_perm.mem_iff.1 h
  simp at this
  obtain ⟨i, hi, rfl⟩ := this
  omega
theorem grdG_len {D : Int → Int} {n : Nat} : (grdG D n).length = n := by rw [grdG_perm.length_eq]; simp
theorem grdG_pw {D : Int → Int} : ∀ {n : Nat}, (grdG D n).Pairwise (slt D)
  | 0 => by simp [grdG]
  | n + 1 => putG_pw grdG_pw fun y hy => (grdG_mem hy).2
theorem grdG_eq {D : Int → Int} {n : Nat} {l : List Int} (hp : l.Perm ((List.range n).map fun i : Nat => (i : Int))) (hs : SortS D l 0 n) : l = grdG D n := by
  have hl : l.length = n := by rw [hp.length_eq]; simp
  refine slt_unique (hp.trans grdG_perm.symm) (SortS.pw (by rw [hl]; exact hs)) grdG_pw

/-- A heap that is as it was, but for a row that was moved. -/
structure SR (G : AH) (b o : Nat) (l0 l : List Int) (H : AH) : Prop where
  len : H.length = G.length
  keep : ∀ j, j ≠ b → H[j]? = G[j]?
  perm : l.Perm l0
  row : ∃ cs, H[b]? = some ⟨cs, .own⟩ ∧ o + l.length ≤ cs.length ∧ ∀ k x, l[k]? = some x → cs[o + k]? = some (.int .i64 x)
def cmpI (a b : Int) : Int := if a < b then -1 else if a > b then 1 else 0
theorem cmpI_lt {a b : Int} : decide (cmpI a b < 0) = decide (a < b) := by
  unfold cmpI
  by_cases h : a < b
  · rw [if_pos h]; simp [h]
  · rw [if_neg h]; split <;> simp [h]
structure CmpOk (P : Program) (g : FuncId) (cap : Value) (G : AH) (b o : Nat) (l0 : List Int) (D : Int → Int) : Prop where
  call : ∀ l H, SR G b o l0 l H → ∀ x ∈ l0, ∀ y ∈ l0, ∀ Φ, CallsA P g #[.int .i64 x, .int .i64 y, cap] H Φ = Φ (.int .i64 (cmpI (D x) (D y))) H
theorem arr21 {a c d : Value} : (#[a, c] ++ #[d] : Array Value) = #[a, c, d] := rfl
theorem SR.lenl {G : AH} {b o : Nat} {l0 l : List Int} {H : AH} (h : SR G b o l0 l H) : l.length = l0.length := h.perm.length_eq
theorem SR.mem {G : AH} {b o : Nat} {l0 l : List Int} {H : AH} (h : SR G b o l0 l H) {i : Nat} (hi : i < l0.length) : gx l i ∈ l0 := by
  have h1 : i < l.length := by rw [h.lenl]; exact hi
  rw [← h.perm.mem_iff]
  exact List.mem_of_getElem? (gx_get h1)
theorem SR.get {G : AH} {b o : Nat} {l0 l : List Int} {H : AH} (h : SR G b o l0 l H) : ∃ cs, H[b]? = some ⟨cs, .own⟩ ∧ o + l0.length ≤ cs.length ∧ ∀ k, k < l0.length → cs[o + k]? = some (.int .i64 (gx l k)) := by
  obtain ⟨cs, h1, h2, h3⟩ := h.row
  have := h.lenl
  exact ⟨cs, h1, by omega, fun k hk => h3 k _ (gx_get (by omega))⟩
theorem SR.swap {G : AH} {b o : Nat} {l0 l : List Int} {H : AH} {cs : List Value} (h : SR G b o l0 l H) (hb : H[b]? = some ⟨cs, .own⟩) {i j : Nat} (hi : i < l0.length) (hj : j < l0.length) :
    SR G b o l0 (swp l i j) (H.set b ⟨(cs.set (o + i) (.int .i64 (gx l j))).set (o + j) (.int .i64 (gx l i)), .own⟩) := by
  have hl := h.lenl
  obtain ⟨cs', h1, h2, h3⟩ := h.row
  rw [hb] at h1
  obtain rfl : cs = cs' := by injection h1 with h1; injection h1
  refine ⟨by rw [List.length_set]; exact h.len, fun k hk => by rw [List.getElem?_set_ne (fun e => hk e.symm)]; exact h.keep k hk, (swp_perm (by omega) (by omega)).trans h.perm, _, set_at hb, by simp [swp]; omega, fun k x hx => ?_⟩
  have hk : k < (swp l i j).length := (List.getElem?_eq_some_iff.1 hx).1
  have e := gx_of hx
  rw [gx_swp (by omega) (by omega)] at e
  rw [swp_len] at hk
  by_cases e1 : k = j
  · subst e1
    rw [List.getElem?_set_self (by simp; omega)]
    rw [if_pos rfl] at e; rw [e]
  · rw [List.getElem?_set_ne (by omega)]
    rw [if_neg e1] at e
    by_cases e2 : k = i
    · subst e2
      rw [List.getElem?_set_self (by omega)]
      rw [if_pos rfl] at e; rw [e]
    · rw [List.getElem?_set_ne (by omega)]
      rw [if_neg e2] at e
      rw [h3 k _ (gx_get hk), e]

set_option maxHeartbeats 4000000 in
theorem swapRange_ok {G H : AH} {b o : Nat} {l0 l : List Int} {f : Value} (h : SR G b o l0 l H) (hn : l0.length ≤ 1048576) {p q m : Nat} (hpq : p + m ≤ q) (hq : q + m ≤ l0.length) :
    CallsA Try.prog 129 #[.slice (some ⟨b, o, none⟩) l0.length 1, .int .i64 p, .int .i64 q, .int .i64 m, f] H fun r H' => ∃ l', SR G b o l0 l' H' ∧ Swr l l' p q m ∧ Mv l l' p (q + m) := by
  refine w129 ?_
  unfold k129
  simp -implicitDefEqProofs only [kz, kk0, kk1, kk2, kk3, ↓two_true, ↓two_false, oS_some, oM_some, mkv, aggAt, Nat.reduceLeDiff, Nat.reduceSub, Nat.reduceMul, implies_true, Nat.reduceEqDiff, reduceIte, Nat.reduceAdd, Nat.reduceBEq, reduceCtorEq, ix24, ld3, st3]
  refine rW_loop (σ := Nat × List Int) (fun (k, l') tm H' => tm 0 = .slice (some ⟨b, o, none⟩) l0.length 1 ∧ tm 1 = .int .i64 p ∧ tm 2 = .int .i64 q ∧ tm 3 = .int .i64 m ∧ tm 10 = .int .i64 k ∧ k ≤ m ∧ SR G b o l0 l' H' ∧ Swr l l' p q k ∧ Mv l l' p (q + m)) (fun s => m - s.1) (0, l) ?_ ?_
  · simp -implicitDefEqProofs [kk0, kk1, kk2, kk3, rW_block, ↓two_true, ↓two_false, rW_cond, rO_guard, oS_some, oM_some, mkv, aggAt, Nat.reduceLeDiff, Nat.reduceSub, Nat.reduceMul, cond_true, cond_false, Option.bind_some, List.length_append, List.length_cons, List.length_nil, List.append_assoc, List.cons_append, List.nil_append, List.set_cons_zero, List.set_cons_succ, List.size_toArray, List.all_cons, List.all_nil, List.drop_zero, List.drop_succ_cons, List.take_succ_cons, List.take_zero, List.mem_cons, Prod.mk.injEq, List.not_mem_nil, implies_true, List.getElem?_toArray, List.getElem?_cons_zero, List.getElem?_cons_succ, List.getElem?_nil, Option.getD_some, Option.getD_none, Nat.reduceEqDiff, reduceIte, Nat.reduceAdd, List.map_toArray, List.map_cons, List.map_nil, Bool.false_eq_true, Nat.reduceBEq, Option.map_some, Option.map_none, reduceCtorEq, ix24, ld3, st3]
    exact ⟨h, Swr.zero, Mv.refl⟩
  · rintro ⟨k, l'⟩ tm H1 ⟨h0, h1, h2, h3, h10, hk, hs, hw, hm⟩
    simp -implicitDefEqProofs only [kz, kk0, kk1, kk2, kk3, ↓two_true, ↓two_false, oS_some, oM_some, mkv, aggAt, Nat.reduceLeDiff, Nat.reduceSub, Nat.reduceMul, implies_true, Nat.reduceEqDiff, reduceIte, Nat.reduceAdd, Nat.reduceBEq, reduceCtorEq, ix24, ld3, st3, h0, h1, h2, h3, h10]
    refine two_intro (fun hc => ?_) (fun hc => ?_)
    · have hlt : k < m := by simpa using hc
      obtain ⟨cs, hb, hle, hcell⟩ := hs.get
      have w1 : IntKind.i64.wrap ((p : Int) + k) = ((p + k : Nat) : Int) := by rw [IntWalk.i64_in _ (by omega)]; omega
      have w2 : IntKind.i64.wrap ((q : Int) + k) = ((q + k : Nat) : Int) := by rw [IntWalk.i64_in _ (by omega)]; omega
      have w3 : IntKind.i64.wrap ((k : Int) + 1) = ((k + 1 : Nat) : Int) := by rw [IntWalk.i64_in _ (by omega)]; omega
      simp -implicitDefEqProofs only [kz, kk0, kk1, kk2, kk3, ↓two_true, ↓two_false, oS_some, oM_some, mkv, aggAt, Nat.reduceLeDiff, Nat.reduceSub, Nat.reduceMul, implies_true, Nat.reduceEqDiff, reduceIte, Nat.reduceAdd, Nat.reduceBEq, reduceCtorEq, ix24, ld3, st3, h0, h1, h2, h3, h10, Int.toNat_natCast, Nat.mul_one, w1, w2, w3, rd_own hb, wrt_own hb, wrt_own (set_at hb), hcell (p + k) (by omega), hcell (q + k) (by omega)]
      refine ⟨by omega, by omega, by omega, by omega, by omega, by rw [List.length_set]; omega, (k + 1, swp l' (p + k) (q + k)), by simp only; omega, rfl, hlt, ?_, hw.step (by omega) (by rw [hs.lenl]; omega), hm.trans (Mv.swp (by omega) (by omega) (by omega) (by omega) (by rw [hs.lenl]; omega))⟩
      rw [list_set_set]
      exact hs.swap hb (by omega) (by omega)
    · have : k = m := by have : ¬ k < m := by simpa using hc
                         omega
      subst this
      exact ⟨l', hs, hw, hm⟩

set_option maxHeartbeats 4000000 in
theorem rotate_ok {G H : AH} {b o : Nat} {l0 l : List Int} {f : Value} (h : SR G b o l0 l H) (hn : l0.length ≤ 1048576) {x m y : Nat} (hxm : x < m) (hmy : m < y) (hy : y ≤ l0.length) :
    CallsA Try.prog 124 #[.slice (some ⟨b, o, none⟩) l0.length 1, .int .i64 x, .int .i64 m, .int .i64 y, f] H fun r H' => ∃ l', SR G b o l0 l' H' ∧ Rot l l' x m y ∧ Mv l l' x y := by
  have w1 : IntKind.i64.wrap ((m : Int) - x) = ((m - x : Nat) : Int) := by rw [IntWalk.i64_in _ (by omega)]; omega
  have w2 : IntKind.i64.wrap ((y : Int) - m) = ((y - m : Nat) : Int) := by rw [IntWalk.i64_in _ (by omega)]; omega
  refine w124 ?_
  unfold k124
  simp -implicitDefEqProofs only [kz, kk0, kk1, kk2, kk3, ↓two_true, ↓two_false, oS_some, oM_some, mkv, aggAt, Nat.reduceLeDiff, Nat.reduceSub, Nat.reduceMul, implies_true, Nat.reduceEqDiff, reduceIte, Nat.reduceAdd, Nat.reduceBEq, reduceCtorEq, w1, w2]
  refine rW_loop (σ := Nat × Nat × List Int) (fun (i, j, l') tm H' => tm 0 = .slice (some ⟨b, o, none⟩) l0.length 1 ∧ tm 2 = .int .i64 m ∧ tm 4 = f ∧ tm 10 = .int .i64 i ∧ tm 11 = .int .i64 j ∧ 0 < i ∧ 0 < j ∧ x + i ≤ m ∧ m + j ≤ y ∧ SR G b o l0 l' H' ∧ Mv l l' x y ∧ ∀ t, Rot l' t (m - i) m (m + j) → Rot l t x m y) (fun s => s.1 + s.2.1) (m - x, y - m, l) ?_ ?_
  · simp -implicitDefEqProofs [kk0, kk1, kk2, kk3, rW_block, ↓two_true, ↓two_false, rW_cond, rO_guard, oS_some, oM_some, mkv, aggAt, Nat.reduceLeDiff, Nat.reduceSub, Nat.reduceMul, cond_true, cond_false, Option.bind_some, List.length_append, List.length_cons, List.length_nil, List.append_assoc, List.cons_append, List.nil_append, List.set_cons_zero, List.set_cons_succ, List.size_toArray, List.all_cons, List.all_nil, List.drop_zero, List.drop_succ_cons, List.take_succ_cons, List.take_zero, List.mem_cons, Prod.mk.injEq, List.not_mem_nil, implies_true, List.getElem?_toArray, List.getElem?_cons_zero, List.getElem?_cons_succ, List.getElem?_nil, Option.getD_some, Option.getD_none, Nat.reduceEqDiff, reduceIte, Nat.reduceAdd, List.map_toArray, List.map_cons, List.map_nil, Bool.false_eq_true, Nat.reduceBEq, Option.map_some, Option.map_none, reduceCtorEq]
    exact ⟨by omega, by omega, by omega, by omega, h, Mv.refl, fun t ht => by rw [show m - (m - x) = x by omega, show m + (y - m) = y by omega] at ht; exact ht⟩
  · rintro ⟨i, j, l'⟩ tm H1 ⟨h0, h2, h4, h10, h11, hi, hj, hxi, hjy, hs, hm, hr⟩
    have w3 : IntKind.i64.wrap ((m : Int) - i) = ((m - i : Nat) : Int) := by rw [IntWalk.i64_in _ (by omega)]; omega
    have w4 : IntKind.i64.wrap ((i : Int) - j) = (i : Int) - j := IntWalk.i64_in _ (by omega)
    have w5 : IntKind.i64.wrap ((j : Int) - i) = (j : Int) - i := IntWalk.i64_in _ (by omega)
    have w6 : IntKind.i64.wrap ((m : Int) + j) = ((m + j : Nat) : Int) := by rw [IntWalk.i64_in _ (by omega)]; omega
    have w7 : IntKind.i64.wrap (((m + j : Nat) : Int) - i) = ((m + j - i : Nat) : Int) := by rw [IntWalk.i64_in _ (by omega)]; omega
    simp -implicitDefEqProofs only [kz, kk0, kk1, kk2, kk3, ↓two_true, ↓two_false, oS_some, oM_some, mkv, aggAt, Nat.reduceLeDiff, Nat.reduceSub, Nat.reduceMul, implies_true, Nat.reduceEqDiff, reduceIte, Nat.reduceAdd, Nat.reduceBEq, reduceCtorEq, h0, h2, h4, h10, h11, w3, w6, w7]
    refine two_intro (fun hc => ?_) (fun hc => ?_)
    · have hne : i ≠ j := fun e => by subst e; simp at hc
      refine two_intro (fun hg => ?_) (fun hg => ?_)
      · have hij : j < i := by simpa using hg
        refine (swapRange_ok hs hn (p := m - i) (q := m) (m := j) (by omega) (by omega)).mono ?_
        rintro _ H2 ⟨l2, s2, sw, m2⟩
        simp -implicitDefEqProofs only [kz, kk0, kk1, kk2, kk3, ↓two_true, ↓two_false, oS_some, oM_some, mkv, aggAt, Nat.reduceLeDiff, Nat.reduceSub, Nat.reduceMul, implies_true, Nat.reduceEqDiff, reduceIte, Nat.reduceAdd, Nat.reduceBEq, reduceCtorEq, h0, h2, h4, h10, h11, w4]
        refine ⟨(i - j, j, l2), by simp only; omega, by simp only; congr 1; omega, rfl, by simp only; omega, hj, by simp only; omega, hjy, s2, hm.trans (m2.wide (by omega) (by omega)), fun t ht => hr t (Rot.left (by omega) hij sw ?_)⟩
        simp only at ht
        rw [show m - i + j = m - (i - j) by omega]; exact ht
      · have hij : i < j := by have : ¬ j < i := by simpa using hg
                               omega
        refine (swapRange_ok hs hn (p := m - i) (q := m + j - i) (m := i) (by omega) (by omega)).mono ?_
        rintro _ H2 ⟨l2, s2, sw, m2⟩
        simp -implicitDefEqProofs only [kz, kk0, kk1, kk2, kk3, ↓two_true, ↓two_false, oS_some, oM_some, mkv, aggAt, Nat.reduceLeDiff, Nat.reduceSub, Nat.reduceMul, implies_true, Nat.reduceEqDiff, reduceIte, Nat.reduceAdd, Nat.reduceBEq, reduceCtorEq, h0, h2, h4, h10, h11, w5]
        exact ⟨(i, j - i, l2), by simp only; omega, rfl, by simp only; congr 1; omega, hi, by simp only; omega, hxi, by simp only; omega, s2, hm.trans (m2.wide (by omega) (by omega)), fun t ht => hr t (Rot.right (by omega) hij sw ht)⟩
    · have hij : i = j := by have := bne_eq_false_iff_eq.1 hc; omega
      subst hij
      refine (swapRange_ok hs hn (p := m - i) (q := m) (m := i) (by omega) (by omega)).mono ?_
      rintro _ H2 ⟨l2, s2, sw, m2⟩
      simp -implicitDefEqProofs only [kz, kk0, kk1, kk2, kk3, ↓two_true, ↓two_false, oS_some, oM_some, mkv, aggAt, Nat.reduceLeDiff, Nat.reduceSub, Nat.reduceMul, implies_true, Nat.reduceEqDiff, reduceIte, Nat.reduceAdd, Nat.reduceBEq, reduceCtorEq]
      exact ⟨l2, s2, hr _ (Rot.same (by omega) sw), hm.trans (m2.wide (by omega) (by omega))⟩

set_option maxHeartbeats 4000000 in
theorem insSort_ok {G H : AH} {b o : Nat} {l0 l : List Int} {g : FuncId} {cap : Value} {D : Int → Int} (hcmp : CmpOk Try.prog g cap G b o l0 D) (h : SR G b o l0 l H) (hn : l0.length ≤ 1048576) {x y : Nat} (hxy : x ≤ y) (hy : y ≤ l0.length) (ha : ∀ p q, x ≤ p → p < q → q < y → gx l p < gx l q) :
    CallsA Try.prog 103 #[.slice (some ⟨b, o, none⟩) l0.length 1, .int .i64 x, .int .i64 y, .func (.func g) #[] #[cap]] H fun r H' => ∃ l', SR G b o l0 l' H' ∧ SortS D l' x y ∧ Mv l l' x y := by
  have w1 : IntKind.i64.wrap ((x : Int) + 1) = ((x + 1 : Nat) : Int) := by rw [IntWalk.i64_in _ (by omega)]; omega
  refine w103 ?_
  unfold k103
  simp -implicitDefEqProofs only [kz, kk0, kk1, kk2, kk3, ↓two_true, ↓two_false, oS_some, oM_some, mkv, aggAt, Nat.reduceLeDiff, Nat.reduceSub, Nat.reduceMul, implies_true, Nat.reduceEqDiff, reduceIte, Nat.reduceAdd, Nat.reduceBEq, reduceCtorEq, ix24, ld3, st3, w1]
  refine rW_loop (σ := Nat × List Int) (fun (i, l') tm H' => tm 0 = .slice (some ⟨b, o, none⟩) l0.length 1 ∧ tm 1 = .int .i64 x ∧ tm 2 = .int .i64 y ∧ tm 3 = .func (.func g) #[] #[cap] ∧ tm 8 = .int .i64 i ∧ x + 1 ≤ i ∧ (i ≤ y ∨ i = x + 1) ∧ SR G b o l0 l' H' ∧ SortS D l' x (min i y) ∧ Mv l l' x (min i y)) (fun s => y - s.1) (x + 1, l) ?_ ?_
  · simp -implicitDefEqProofs [kk0, kk1, kk2, kk3, rW_block, ↓two_true, ↓two_false, rW_cond, rO_guard, oS_some, oM_some, mkv, aggAt, Nat.reduceLeDiff, Nat.reduceSub, Nat.reduceMul, cond_true, cond_false, Option.bind_some, List.length_append, List.length_cons, List.length_nil, List.append_assoc, List.cons_append, List.nil_append, List.set_cons_zero, List.set_cons_succ, List.size_toArray, List.all_cons, List.all_nil, List.drop_zero, List.drop_succ_cons, List.take_succ_cons, List.take_zero, List.mem_cons, Prod.mk.injEq, List.not_mem_nil, implies_true, List.getElem?_toArray, List.getElem?_cons_zero, List.getElem?_cons_succ, List.getElem?_nil, Option.getD_some, Option.getD_none, Nat.reduceEqDiff, reduceIte, Nat.reduceAdd, List.map_toArray, List.map_cons, List.map_nil, Bool.false_eq_true, Nat.reduceBEq, Option.map_some, Option.map_none, reduceCtorEq, ix24, ld3, st3]
    exact ⟨h, fun i j i1 i2 i3 => by omega, Mv.refl⟩
  · rintro ⟨i, l'⟩ tm H1 ⟨h0, h1, h2, h3, h8, hxi, hiy, hs, hso, hm⟩
    simp -implicitDefEqProofs only [kz, kk0, kk1, kk2, kk3, ↓two_true, ↓two_false, oS_some, oM_some, mkv, aggAt, Nat.reduceLeDiff, Nat.reduceSub, Nat.reduceMul, implies_true, Nat.reduceEqDiff, reduceIte, Nat.reduceAdd, Nat.reduceBEq, reduceCtorEq, ix24, ld3, st3, h0, h1, h2, h3, h8]
    refine two_intro (fun hc => ?_) (fun hc => ?_)
    · have hlt : i < y := by simpa using hc
      rw [Nat.min_eq_left (by omega)] at hso hm
      refine rW_loop (σ := Nat × List Int) (fun (j, l') tm H' => tm 0 = .slice (some ⟨b, o, none⟩) l0.length 1 ∧ tm 1 = .int .i64 x ∧ tm 2 = .int .i64 y ∧ tm 3 = .func (.func g) #[] #[cap] ∧ tm 8 = .int .i64 i ∧ tm 9 = .int .i64 j ∧ x ≤ j ∧ j ≤ i ∧ SR G b o l0 l' H' ∧ Ins1 D l' x i j ∧ Mv l l' x (i + 1)) (fun s => s.1) (i, l') ?_ ?_
      · simp -implicitDefEqProofs [kk0, kk1, kk2, kk3, rW_block, ↓two_true, ↓two_false, rW_cond, rO_guard, oS_some, oM_some, mkv, aggAt, Nat.reduceLeDiff, Nat.reduceSub, Nat.reduceMul, cond_true, cond_false, Option.bind_some, List.length_append, List.length_cons, List.length_nil, List.append_assoc, List.cons_append, List.nil_append, List.set_cons_zero, List.set_cons_succ, List.size_toArray, List.all_cons, List.all_nil, List.drop_zero, List.drop_succ_cons, List.take_succ_cons, List.take_zero, List.mem_cons, Prod.mk.injEq, List.not_mem_nil, implies_true, List.getElem?_toArray, List.getElem?_cons_zero, List.getElem?_cons_succ, List.getElem?_nil, Option.getD_some, Option.getD_none, Nat.reduceEqDiff, reduceIte, Nat.reduceAdd, List.map_toArray, List.map_cons, List.map_nil, Bool.false_eq_true, Nat.reduceBEq, Option.map_some, Option.map_none, reduceCtorEq, ix24, ld3, st3, h0, h1, h2, h3, h8]
        refine ⟨by omega, hs, Ins1.start hso fun p p1 p2 => ?_, hm.wide (Nat.le_refl _) (by omega)⟩
        obtain ⟨p', q1, q2, e⟩ := hm.inn p p1 p2
        rw [e, hm.out i (by omega)]
        exact ha p' i q1 q2 hlt
      · rintro ⟨j, l2⟩ tm H2 ⟨h0, h1, h2, h3, h8, h9, hxj, hji, hs2, hin, hm2⟩
        by_cases hj : x < j
        · obtain ⟨k, rfl⟩ : ∃ k, j = k + 1 := ⟨j - 1, by omega⟩
          obtain ⟨cs, hb, hle, hcell⟩ := hs2.get
          have d1 : decide (((k + 1 : Nat) : Int) > x) = true := decide_eq_true (by omega)
          have wk : IntKind.i64.wrap (((k + 1 : Nat) : Int) - 1) = (k : Int) := by rw [IntWalk.i64_in _ (by omega)]; omega
          have ec := hcmp.call l2 H2 hs2 _ (hs2.mem (i := k + 1) (by omega)) _ (hs2.mem (i := k) (by omega))
          simp -implicitDefEqProofs only [kz, kk0, kk1, kk2, kk3, ↓two_true, ↓two_false, oS_some, oM_some, mkv, aggAt, Nat.reduceLeDiff, Nat.reduceSub, Nat.reduceMul, implies_true, Nat.reduceEqDiff, reduceIte, Nat.reduceAdd, Nat.reduceBEq, reduceCtorEq, ix24, ld3, st3, h0, h1, h2, h3, h8, h9, d1, wk, Int.toNat_natCast, Nat.mul_one, rd_own hb, wrt_own hb, wrt_own (set_at hb), hcell (k + 1) (by omega), hcell k (by omega), arr21, Array.empty_append, Array.append_empty, ec, cmpI_lt]
          refine ⟨by omega, by omega, two_intro (fun hd => ?_) (fun hd => ?_)⟩
          · have hd' : D (gx l2 (k + 1)) < D (gx l2 k) := of_decide_eq_true hd
            refine ⟨by omega, by omega, by omega, by omega, by omega, by rw [List.length_set]; omega, (k, swp l2 (k + 1) k), by simp only; omega, rfl, by simp only; omega, by simp only; omega, ?_, hin.step (by omega) hji (by rw [hs2.lenl]; omega) hd', hm2.trans (Mv.swp (by omega) (by omega) (by omega) (by omega) (by rw [hs2.lenl]; omega))⟩
            rw [list_set_set]
            exact hs2.swap hb (by omega) (by omega)
          · have hd' : ¬ D (gx l2 (k + 1)) < D (gx l2 k) := of_decide_eq_false hd
            have wi : IntKind.i64.wrap ((i : Int) + 1) = ((i + 1 : Nat) : Int) := by rw [IntWalk.i64_in _ (by omega)]; omega
            rw [wi]
            exact ⟨(i + 1, l2), by simp only; omega, rfl, by simp only; omega, .inl hlt, hs2, by simp only; rw [Nat.min_eq_left (by omega)]; exact hin.stop (by omega) hji hd', by simp only; rw [Nat.min_eq_left (by omega)]; exact hm2⟩
        · have d1 : decide ((j : Int) > x) = false := decide_eq_false (by omega)
          simp -implicitDefEqProofs only [kz, kk0, kk1, kk2, kk3, ↓two_true, ↓two_false, oS_some, oM_some, mkv, aggAt, Nat.reduceLeDiff, Nat.reduceSub, Nat.reduceMul, implies_true, Nat.reduceEqDiff, reduceIte, Nat.reduceAdd, Nat.reduceBEq, reduceCtorEq, ix24, ld3, st3, h0, h1, h2, h3, h8, h9, d1]
          have hjx : j = x := by omega
          subst hjx
          have wi : IntKind.i64.wrap ((i : Int) + 1) = ((i + 1 : Nat) : Int) := by rw [IntWalk.i64_in _ (by omega)]; omega
          rw [wi]
          exact ⟨(i + 1, l2), by simp only; omega, rfl, by simp only; omega, .inl hlt, hs2, by simp only; rw [Nat.min_eq_left (by omega)]; exact hin.stop0, by simp only; rw [Nat.min_eq_left (by omega)]; exact hm2⟩
    · have hle : y ≤ i := by have : ¬ i < y := by simpa using hc
                             omega
      rw [Nat.min_eq_right hle] at hso hm
      exact ⟨l', hs, hso, hm⟩

theorem half_u {P : Program} {t : TypeId} {x y : Operand} {a : Nat} (h : a < 4611686018427387904) : aBin P .shr t x y (.int .u64 (IntKind.u64.wrap a)) (.int .u64 1) = some (.int .u64 ((a / 2 : Nat) : Int)) := by
  have e : IntKind.u64.wrap (a : Int) = a := by
    have e : IntKind.u64.wrap (a : Int) = ((a : Int) % 18446744073709551616) := by simp [IntKind.wrap, IntKind.bits, IntKind.signed]
    rw [e]; omega
  rw [e, bin_shr (by decide)]
  have e2 : (min (1 : Int).toNat IntKind.u64.bits) = 1 := by decide
  rw [e2]
  congr 2
  have : ((a : Int).fdiv (2 ^ 1)) = (a : Int) / 2 := by rw [Int.fdiv_eq_ediv_of_nonneg _ (by decide)]; rfl
  rw [this]; omega
theorem two_nl {p q : Nat} {R : Prop} (h : decide ((p : Int) < q) = false) : ¬ (p < q ∧ R) := fun ⟨h1, _⟩ => by
  rw [decide_eq_true (Int.ofNat_lt.2 h1)] at h; cases h
theorem two_nr {p q : Nat} {R : Prop} (h : decide ((p : Int) < q) = false) : ¬ (R ∧ p < q) := fun ⟨_, h1⟩ => by
  rw [decide_eq_true (Int.ofNat_lt.2 h1)] at h; cases h
theorem so_of {D : Int → Int} {t : List Int} {x s m : Nat} (q1 : SortS D t x s) (q2 : SortS D t s m) (h : ¬ (x < s ∧ s < m)) (h1 : x ≤ s) (h2 : s ≤ m) : SortS D t x m := by
  by_cases h9 : x = s
  · subst h9; exact q2
  · have : s = m := by omega
    subst this; exact q1
def SymOk (G : AH) (b o : Nat) (l0 : List Int) (g : FuncId) (cap : Value) (D : Int → Int) (d : Nat) : Prop := ∀ (H : AH) (l : List Int) (x m y : Nat), y - x ≤ d → SR G b o l0 l H → x < m → m < y → y ≤ l0.length → SortS D l x m → SortS D l m y → Ahd l x m y →
    CallsA Try.prog 104 #[.slice (some ⟨b, o, none⟩) l0.length 1, .int .i64 x, .int .i64 m, .int .i64 y, .func (.func g) #[] #[cap]] H fun r H' => ∃ l', SR G b o l0 l' H' ∧ SortS D l' x y ∧ Mv l l' x y
end Go.Proofs.Ytpclegiocblpmaa.AM
