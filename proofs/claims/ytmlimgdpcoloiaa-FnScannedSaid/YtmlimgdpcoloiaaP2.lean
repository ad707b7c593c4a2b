/- What the functions answer, part 2. -/
import Derived.Test.YtmlimgdpcoloiaaP1
set_option linter.unusedVariables false
set_option linter.unusedSimpArgs false
set_option linter.defProp false
set_option maxRecDepth 100000
/- What the functions answer, part 2. -/
namespace Go.Proofs.Ytmlimgdpcoloiaa.AM
open Go Go.Proofs.Ytmlimgdpcoloiaa Go.Proofs
theorem l2Draw_ok {H : AH} {cb : Nat} (hc : Cur H cb) : CallsA Try.prog 170 #[.pointer (some ⟨cb, 0, none⟩)] H fun r H' => (∃ l, DR H H' r l ∧ l.length ≤ 4) ∧ Frm cb H H' := by
  have hlt := hc.lt
  refine w170 ?_
  unfold k170
  simp -implicitDefEqProofs only [kz, kk0, kk1, kk2, kk3, ↓two_true, ↓two_false, oS_some, oM_some, mkv, aggAt, Nat.reduceLeDiff, Nat.reduceSub, Nat.reduceMul, implies_true, Nat.reduceEqDiff, reduceIte, Nat.reduceAdd, Nat.reduceBEq, reduceCtorEq, ap22_22, bs22_1, bs22_2, bs22_4]
  refine (l2DrawRight_ok hc).mono ?_
  rintro _ H1 ⟨⟨l, hl, hn⟩, hf⟩
  obtain ⟨a, c, rfl⟩ := hl.own.isSlice
  simp -implicitDefEqProofs only [kz, kk0, kk1, kk2, kk3, ↓two_true, ↓two_false, oS_some, oM_some, mkv, aggAt, Nat.reduceLeDiff, Nat.reduceSub, Nat.reduceMul, implies_true, Nat.reduceEqDiff, reduceIte, Nat.reduceAdd, Nat.reduceBEq, reduceCtorEq, ap22_22, bs22_1, bs22_2, bs22_4]
  refine (l1Below_ok hf.cur).mono ?_
  rintro _ H2 ⟨⟨v, rfl, _⟩, hg⟩
  have hl := hl.frm hg hlt
  have hf := hf.trans hg
  simp -implicitDefEqProofs only [kz, kk0, kk1, kk2, kk3, ↓two_true, ↓two_false, oS_some, oM_some, mkv, aggAt, Nat.reduceLeDiff, Nat.reduceSub, Nat.reduceMul, implies_true, Nat.reduceEqDiff, reduceIte, Nat.reduceAdd, Nat.reduceBEq, reduceCtorEq, ap22_22, bs22_1, bs22_2, bs22_4]
  have hcb := fun (H3 : AH) (h : Frm cb H H3) (n : Nat) => show blkOf (.slice (some ⟨H3.length, 0, none⟩) n 1) ≠ some cb by have := h.len; simp [blkOf]; omega
  refine two_intro (fun h => ?_) (fun h => two_intro (fun h => ?_) (fun h => two_intro (fun h => ?_) (fun h => ?_)))
  · refine (l1PickInt_ok (l := [-1, 0, 300, 301]) hf.cur.mono OwnRow.new (hcb _ hf _) (by decide)).mono ?_
    rintro _ H3 ⟨⟨x, rfl, _⟩, hg⟩
    have hl := hl.mono.frm hg hlt
    have hf := hf.app.trans hg
    simp -implicitDefEqProofs only [kz, kk0, kk1, kk2, kk3, ↓two_true, ↓two_false, oS_some, oM_some, mkv, aggAt, Nat.reduceLeDiff, Nat.reduceSub, Nat.reduceMul, implies_true, Nat.reduceEqDiff, reduceIte, Nat.reduceAdd, Nat.reduceBEq, reduceCtorEq, ap22_22, bs22_1, bs22_2, bs22_4]
    refine oA_own hl.own.mono intRow1 (by simp; omega) fun a2 c2 H4 o2 x2 => ?_
    simp -implicitDefEqProofs only [kz, kk0, kk1, kk2, kk3, ↓two_true, ↓two_false, oS_some, oM_some, mkv, aggAt, Nat.reduceLeDiff, Nat.reduceSub, Nat.reduceMul, implies_true, Nat.reduceEqDiff, reduceIte, Nat.reduceAdd, Nat.reduceBEq, reduceCtorEq, ap22_22, bs22_1, bs22_2, bs22_4]
    refine ⟨⟨_, x2.dr o2 hl.mono (by have := hf.len; simp; omega), by simp; omega⟩, hf.app.push hl.mono hlt x2⟩
  · exact ⟨⟨[_, _, _, _], DR.lit [_, _, _, _] hf.len rfl rfl, by simp⟩, hf.app⟩
  · refine (l1PickInt_ok (l := [17, 20, 15, 300]) hf.cur.mono OwnRow.new (hcb _ hf _) (by decide)).mono ?_
    rintro _ H3 ⟨⟨x, rfl, _⟩, hg⟩
    have hf := hf.app.trans hg
    simp -implicitDefEqProofs only [kz, kk0, kk1, kk2, kk3, ↓two_true, ↓two_false, oS_some, oM_some, mkv, aggAt, Nat.reduceLeDiff, Nat.reduceSub, Nat.reduceMul, implies_true, Nat.reduceEqDiff, reduceIte, Nat.reduceAdd, Nat.reduceBEq, reduceCtorEq, ap22_22, bs22_1, bs22_2, bs22_4]
    refine (l1PickInt_ok (l := [15, 20, 16, 0]) hf.cur.mono OwnRow.new (hcb _ hf _) (by decide)).mono ?_
    rintro _ H4 ⟨⟨y, rfl, _⟩, hg⟩
    have hf := hf.app.trans hg
    simp -implicitDefEqProofs only [kz, kk0, kk1, kk2, kk3, ↓two_true, ↓two_false, oS_some, oM_some, mkv, aggAt, Nat.reduceLeDiff, Nat.reduceSub, Nat.reduceMul, implies_true, Nat.reduceEqDiff, reduceIte, Nat.reduceAdd, Nat.reduceBEq, reduceCtorEq, ap22_22, bs22_1, bs22_2, bs22_4]
    exact ⟨⟨[_, _], DR.lit [_, _] hf.len rfl rfl, by simp⟩, hf.app⟩
  · exact ⟨⟨l, hl, by omega⟩, hf⟩

/-- An array of its own that was drawn. -/
structure DA (H0 H : AH) (p q : Value) (sh dt : List Int) : Prop where
  sh : DR H0 H p sh
  dt : DR H0 H q dt
  dj : Dj p q
theorem DA.frm {H0 H H' : AH} {cb : Nat} {p q : Value} {sh dt : List Int} (h : DA H0 H p q sh dt) (hf : Frm cb H H') (hc : cb < H0.length) : DA H0 H' p q sh dt := ⟨h.sh.frm hf hc, h.dt.frm hf hc, h.dj⟩
theorem DA.mono {H0 H L : AH} {p q : Value} {sh dt : List Int} (h : DA H0 H p q sh dt) : DA H0 (H ++ L) p q sh dt := ⟨h.sh.mono, h.dt.mono, h.dj⟩
theorem DA.back {H0 H1 H : AH} {p q : Value} {sh dt : List Int} (h : DA H1 H p q sh dt) (hl : H0.length ≤ H1.length) : DA H0 H p q sh dt := ⟨h.sh.back hl, h.dt.back hl, h.dj⟩
/-- An array that grows in a box, while there are draws. -/
structure GroF (cb : Nat) (H0 : AH) (bx : List (Nat × Blk)) (o : Nat) (sh : Value) (ss : List Int) (a' : Option Addr) (c' : Nat) (l : List Int) (H : AH) : Prop where
  bs : ∀ x ∈ bx, H[x.1]? = some x.2 ∧ x.1 < o ∧ x.1 ≠ cb
  out : H[o]? = some ⟨[sh, .slice a' l.length c'], .own⟩
  osh : DR H0 H sh ss
  od : DR H0 H (.slice a' l.length c') l
  nd : ∀ b, blkOf (.slice a' l.length c') = some b → o < b
  ns : ∀ b, blkOf sh = some b → b < o ∧ ∀ x ∈ bx, x.1 ≠ b
  n0 : H0.length ≤ o
  nc : cb < H0.length
  ext : Frm cb H0 H
theorem GroF.mono {cb : Nat} {H0 H L : AH} {bx : List (Nat × Blk)} {o : Nat} {sh : Value} {ss : List Int} {a' : Option Addr} {c' : Nat} {l : List Int} (h : GroF cb H0 bx o sh ss a' c' l H) : GroF cb H0 bx o sh ss a' c' l (H ++ L) :=
  ⟨fun x hx => ⟨gtl (h.bs x hx).1, (h.bs x hx).2⟩, gtl h.out, h.osh.mono, h.od.mono, h.nd, h.ns, h.n0, h.nc, h.ext.app⟩
theorem GroF.frm {cb : Nat} {H0 H H' : AH} {bx : List (Nat × Blk)} {o : Nat} {sh : Value} {ss : List Int} {a' : Option Addr} {c' : Nat} {l : List Int} (h : GroF cb H0 bx o sh ss a' c' l H) (hf : Frm cb H H') : GroF cb H0 bx o sh ss a' c' l H' :=
  ⟨fun x hx => ⟨hf.at (h.bs x hx).1 (h.bs x hx).2.2, (h.bs x hx).2⟩, hf.at h.out (by have := h.n0; have := h.nc; omega), h.osh.frm hf h.nc, h.od.frm hf h.nc, h.nd, h.ns, h.n0, h.nc, h.ext.trans hf⟩
/-- Numbers are put behind, and the box is written anew. -/
theorem GroF.push {cb : Nat} {H0 H H2 : AH} {bx : List (Nat × Blk)} {o : Nat} {sh : Value} {ss : List Int} {a' a2 : Option Addr} {c' c2 : Nat} {l m : List Int} (h : GroF cb H0 bx o sh ss a' c' l H)
    (ho : OwnRow H2 (.slice a2 (l.length + m.length) c2) (l ++ m)) (ha : App H (.slice a' l.length c') H2 (.slice a2 (l.length + m.length) c2)) :
    H2[o]? = some ⟨[sh, .slice a' l.length c'], .own⟩ ∧ (∀ x ∈ bx, H2[x.1]? = some x.2) ∧ GroF cb H0 bx o sh ss a2 c2 (l ++ m) (H2.set o ⟨[sh, .slice a2 (l.length + m.length) c2], .own⟩) := by
  have hne : ∀ b, b ≤ o → blkOf (.slice a' l.length c') ≠ some b := fun b hb e => by have := h.nd b e; omega
  have hol := (List.getElem?_eq_some_iff.1 h.out).1
  have hn0 := h.n0
  have hnc := h.nc
  have k1 : H2[o]? = _ := (ha.keep o hol (hne o (Nat.le_refl _))).trans h.out
  have k2 : ∀ x ∈ bx, H2[x.1]? = some x.2 := fun x hx => by
    have := h.bs x hx
    rw [ha.keep x.1 (by omega) (hne _ (by omega)), this.1]
  have hn2 : ∀ b, blkOf (.slice a2 (l.length + m.length) c2) = some b → o < b := fun b hb => (ha.new b hb).elim (h.nd b) fun h => by omega
  have hf := h.ext.push h.od hnc ha
  refine ⟨k1, k2, ⟨fun x hx => ⟨?_, (h.bs x hx).2⟩, ?_, ?_, ?_, ?_, h.ns, h.n0, h.nc, ?_⟩⟩
  · rw [List.getElem?_set_ne (by have := (h.bs x hx).2; omega)]
    exact k2 x hx
  · rw [List.length_append]; exact set_at k1
  · refine ⟨(ha.own h.osh.own fun b hb => hne b (by have := h.ns b hb; omega)).set fun e => ?_, h.osh.fr⟩
    have := h.ns _ e; omega
  · rw [List.length_append]
    exact ⟨ho.set fun e => by have := hn2 _ e; omega, fun b hb => by have := hn2 b hb; omega⟩
  · rw [List.length_append]; exact hn2
  · exact hf.set k1 (by omega) (by omega)
theorem GroF.da {cb : Nat} {H0 H : AH} {bx : List (Nat × Blk)} {o : Nat} {sh : Value} {ss : List Int} {a' : Option Addr} {c' : Nat} {l : List Int} (h : GroF cb H0 bx o sh ss a' c' l H) {b : Nat} {k : Blk} {cs : List Value} (hb : b < o) (hs : blkOf sh ≠ some b) (h0 : H0.length ≤ b) (hk : H[b]? = some ⟨cs, .own⟩) :
    DA H0 (H.set b k) sh (.slice a' l.length c') ss l ∧ Frm cb H0 (H.set b k) := by
  have hnc := h.nc
  refine ⟨⟨⟨h.osh.own.set hs, h.osh.fr⟩, ⟨h.od.own.set fun e => ?_, h.od.fr⟩, fun g h1 h2 => ?_⟩, h.ext.set hk h0 (by omega)⟩
  · have := h.nd _ e; omega
  · have := h.nd _ h2; have := h.ns _ h1; omega

theorem l3Fill_ok {H : AH} {cb : Nat} {v : Value} {l : List Int} (hc : Cur H cb) (hv : OwnRow H v l) (hn : blkOf v ≠ some cb) (hl : l.length ≤ 1048576) : CallsA Try.prog 88 #[.pointer (some ⟨cb, 0, none⟩), v] H fun r H' =>
    (∃ p q dt, r = .agg #[p, q] ∧ DA H H' p q l dt ∧ dt.length = (sizeI l).toNat ∧ ∀ x ∈ dt, numOk x = true) ∧ Frm cb H H' := by
  have hlt := hc.lt
  obtain ⟨a, c, rfl⟩ := hv.isSlice
  refine w88 ?_
  unfold k88
  simp -implicitDefEqProofs only [kz, kk0, kk1, kk2, kk3, ↓two_true, ↓two_false, oS_some, oM_some, mkv, aggAt, Nat.reduceLeDiff, Nat.reduceSub, Nat.reduceMul, implies_true, Nat.reduceEqDiff, reduceIte, Nat.reduceAdd, Nat.reduceBEq, reduceCtorEq, al26, ap22_22, bd26, bs22_0, bs22_1, fa26_1, ld22, ld26, st22, st26]
  refine oA_own (l := []) (OwnRow.at0 (cs := []) (by rw [gti]; rfl)) hv.int.mono (by simp; omega) fun a2 c2 H1 o1 x1 => ?_
  simp only [List.length_nil, Nat.zero_add, List.nil_append] at o1 x1 ⊢
  have b0 := x1.at (b := H.length) (by rw [gt0]; rfl) (by simp [blkOf])
  have f1 : Frm cb H H1 := (Frm.refl hc).app.push (v := .slice (some ⟨H.length + 1, 0, none⟩) 0 1) (l := []) ⟨OwnRow.at0 (cs := []) (by rw [gti]; rfl), fun b hb => by simp [blkOf] at hb; omega⟩ hlt x1
  have hl1 := x1.len
  simp only [List.length_append, List.length_cons, List.length_nil] at hl1
  have n1 : ∀ b, blkOf (.slice a2 l.length c2) = some b → H.length + 1 ≤ b := fun b hb => by
    rcases x1.new b hb with h | h
    · simp [blkOf] at h; omega
    · simp at h; omega
  have hsz := sizeI_le (l := l)
  simp -implicitDefEqProofs only [kz, kk0, kk1, kk2, kk3, ↓two_true, ↓two_false, oS_some, oM_some, mkv, aggAt, Nat.reduceLeDiff, Nat.reduceSub, Nat.reduceMul, implies_true, Nat.reduceEqDiff, reduceIte, Nat.reduceAdd, Nat.reduceBEq, reduceCtorEq, al26, ap22_22, bd26, bs22_0, bs22_1, fa26_1, ld22, ld26, st22, st26]
  refine rW_loop (σ := Nat × Option Addr × Nat × List Int) (fun x tm H' => tm 0 = .pointer (some ⟨cb, 0, none⟩) ∧ tm 1 = .slice a l.length c ∧ tm 4 = .pointer (some ⟨H.length, 0, none⟩) ∧ tm 5 = .pointer (some ⟨H1.length, 0, none⟩) ∧ tm 6 = .int .i64 x.1 ∧
    x.2.2.2.length = x.1 ∧ x.1 ≤ (sizeI l).toNat ∧ (∀ y ∈ x.2.2.2, numOk y = true) ∧ GroF cb H [(H.length, ⟨[.slice none 0 0, .slice none 0 0], .own⟩)] H1.length (.slice a2 l.length c2) l x.2.1 x.2.2.1 x.2.2.2 H') (fun x => (sizeI l).toNat - x.1) (0, none, 0, []) ?_ ?_
  · refine ⟨rfl, rfl, rfl, rfl, rfl, rfl, Nat.zero_le _, fun _ h => by simp at h, ⟨fun x hx => ?_, by rw [gt0]; rfl, ?_, ⟨OwnRow.nil, fun b hb => by simp [blkOf] at hb⟩, fun b hb => by simp [blkOf] at hb, fun b hb => ?_, by omega, hlt, f1.app⟩⟩
    · rw [List.mem_singleton.1 hx]; exact ⟨gtl b0, by omega, by simp only; omega⟩
    · exact ⟨o1.mono, fun b hb => by have := n1 b hb; omega⟩
    · have := n1 b hb
      exact ⟨o1.lt b hb, fun x hx => by rw [List.mem_singleton.1 hx]; simp only; omega⟩
  · rintro ⟨i, a', c', dt⟩ tm H' ⟨h0, h1, h4, h5, h6, hi, hle, hok, hg⟩
    simp only at h6 hi hle hok hg
    have es := fun Φ => (specSizeOf_ok (hg.ext.own hv hn).int (by omega)).eq0 (Φ := Φ)
    simp -implicitDefEqProofs only [kz, kk0, kk1, kk2, kk3, ↓two_true, ↓two_false, oS_some, oM_some, mkv, aggAt, Nat.reduceLeDiff, Nat.reduceSub, Nat.reduceMul, implies_true, Nat.reduceEqDiff, reduceIte, Nat.reduceAdd, Nat.reduceBEq, reduceCtorEq, al26, ap22_22, bd26, bs22_0, bs22_1, fa26_1, ld22, ld26, st22, st26, h0, h1, h4, h5, h6, es]
    refine two_intro (fun hlt2 => ?_) (fun hlt2 => ?_)
    · have hlt3 : (i : Int) < sizeI l := by simpa using hlt2
      simp -implicitDefEqProofs only [kz, kk0, kk1, kk2, kk3, ↓two_true, ↓two_false, oS_some, oM_some, mkv, aggAt, Nat.reduceLeDiff, Nat.reduceSub, Nat.reduceMul, implies_true, Nat.reduceEqDiff, reduceIte, Nat.reduceAdd, Nat.reduceBEq, reduceCtorEq, al26, ap22_22, bd26, bs22_0, bs22_1, fa26_1, ld22, ld26, st22, st26, h0, h1, h4, h5, h6, rd_own hg.out]
      refine (l1DrawNum_ok hg.ext.cur).mono ?_
      rintro _ H2 ⟨⟨y, rfl, hy⟩, hf⟩
      have hg2 := hg.frm hf
      simp -implicitDefEqProofs only [kz, kk0, kk1, kk2, kk3, ↓two_true, ↓two_false, oS_some, oM_some, mkv, aggAt, Nat.reduceLeDiff, Nat.reduceSub, Nat.reduceMul, implies_true, Nat.reduceEqDiff, reduceIte, Nat.reduceAdd, Nat.reduceBEq, reduceCtorEq, al26, ap22_22, bd26, bs22_0, bs22_1, fa26_1, ld22, ld26, st22, st26, h0, h1, h4, h5, h6, rd_own hg.out, rd_own hg2.out]
      refine oA_own hg2.od.own.mono intRow1 (by simp; omega) fun a3 c3 H3 o3 x3 => ?_
      obtain ⟨k1, k2, k3⟩ := hg2.mono.push o3 x3
      simp -implicitDefEqProofs only [kz, kk0, kk1, kk2, kk3, ↓two_true, ↓two_false, oS_some, oM_some, mkv, aggAt, Nat.reduceLeDiff, Nat.reduceSub, Nat.reduceMul, implies_true, Nat.reduceEqDiff, reduceIte, Nat.reduceAdd, Nat.reduceBEq, reduceCtorEq, al26, ap22_22, bd26, bs22_0, bs22_1, fa26_1, ld22, ld26, st22, st26, h0, h1, h4, h5, h6, wrt_own k1, IntWalk.i64_in (↑i + 1) (by omega)]
      simp only [List.length_cons, List.length_nil, Nat.zero_add] at k3
      refine ⟨(i + 1, a3, c3, dt ++ [y]), by simp only; omega, by simp, by simp [hi], by simp only; omega, fun z hz => ?_, k3⟩
      rcases List.mem_append.1 hz with h | h
      · exact hok z h
      · rw [List.mem_singleton.1 h]; exact hy
    · have hlt3 : ¬ (i : Int) < sizeI l := by simpa using hlt2
      have k0 : H'[H.length]? = _ := (hg.bs _ (List.mem_singleton.2 rfl)).1
      have k4 := rd_own (set_at (k' := ⟨[.slice a2 l.length c2, .slice a' dt.length c'], .own⟩) k0)
      simp -implicitDefEqProofs only [kz, kk0, kk1, kk2, kk3, ↓two_true, ↓two_false, oS_some, oM_some, mkv, aggAt, Nat.reduceLeDiff, Nat.reduceSub, Nat.reduceMul, implies_true, Nat.reduceEqDiff, reduceIte, Nat.reduceAdd, Nat.reduceBEq, reduceCtorEq, al26, ap22_22, bd26, bs22_0, bs22_1, fa26_1, ld22, ld26, st22, st26, h0, h1, h4, h5, h6, rd_own hg.out, wrt_own k0, k4]
      have hne : blkOf (.slice a2 l.length c2) ≠ some H.length := fun e => by have := n1 _ e; omega
      obtain ⟨d1, d2⟩ := hg.da (b := H.length) (k := ⟨[.slice a2 l.length c2, .slice a' dt.length c'], .own⟩) (by omega) hne (Nat.le_refl _) k0
      exact ⟨⟨_, _, dt, rfl, d1, by omega, hok⟩, d2⟩

theorem l3DrawRight_ok {H : AH} {cb : Nat} (hc : Cur H cb) : CallsA Try.prog 169 #[.pointer (some ⟨cb, 0, none⟩)] H fun r H' =>
    (∃ p q sh dt, r = .agg #[p, q] ∧ DA H H' p q sh dt ∧ sh.length ≤ 3 ∧ dt.length = (sizeI sh).toNat ∧ ∀ x ∈ dt, numOk x = true) ∧ Frm cb H H' := by
  have hlt := hc.lt
  refine w169 ?_
  unfold k169
  simp -implicitDefEqProofs only [kz, kk0, kk1, kk2, kk3, ↓two_true, ↓two_false, oS_some, oM_some, mkv, aggAt, Nat.reduceLeDiff, Nat.reduceSub, Nat.reduceMul, implies_true, Nat.reduceEqDiff, reduceIte, Nat.reduceAdd, Nat.reduceBEq, reduceCtorEq, al26, ld26, st26]
  refine (l2DrawRight_ok hc.mono).mono ?_
  rintro _ H1 ⟨⟨l, hl, hn⟩, hf⟩
  have b0 := hf.at (b := H.length) (by rw [gt0]; rfl) (by omega)
  simp -implicitDefEqProofs only [kz, kk0, kk1, kk2, kk3, ↓two_true, ↓two_false, oS_some, oM_some, mkv, aggAt, Nat.reduceLeDiff, Nat.reduceSub, Nat.reduceMul, implies_true, Nat.reduceEqDiff, reduceIte, Nat.reduceAdd, Nat.reduceBEq, reduceCtorEq, al26, ld26, st26]
  have hlt2 : cb < (H ++ [⟨[.slice none 0 0, .slice none 0 0], .own⟩] : AH).length := by simp; omega
  refine (l3Fill_ok hf.cur hl.own (hl.ne hlt2) (by omega)).mono ?_
  rintro _ H2 ⟨⟨p, q, dt, rfl, hd, h1, h2⟩, hg⟩
  have b1 := hg.at b0 (by omega)
  obtain ⟨pa, pc, rfl⟩ := hd.sh.own.isSlice
  obtain ⟨qa, qc, rfl⟩ := hd.dt.own.isSlice
  have hl1 := hf.len
  simp only [List.length_append, List.length_cons, List.length_nil] at hl1
  have m1 : ∀ b, blkOf (.slice pa l.length pc) = some b → H.length < b := fun b hb => by have := hd.sh.fr b hb; omega
  have m2 : ∀ b, blkOf (.slice qa dt.length qc) = some b → H.length < b := fun b hb => by have := hd.dt.fr b hb; omega
  have k4 := rd_own (set_at (k' := ⟨[.slice pa l.length pc, .slice qa dt.length qc], .own⟩) b1)
  simp -implicitDefEqProofs only [kz, kk0, kk1, kk2, kk3, ↓two_true, ↓two_false, oS_some, oM_some, mkv, aggAt, Nat.reduceLeDiff, Nat.reduceSub, Nat.reduceMul, implies_true, Nat.reduceEqDiff, reduceIte, Nat.reduceAdd, Nat.reduceBEq, reduceCtorEq, al26, ld26, st26, wrt_own b1, k4]
  refine ⟨⟨_, _, l, dt, rfl, ⟨⟨hd.sh.own.set fun e => by have := m1 _ e; omega, fun b hb => by have := m1 b hb; omega⟩, ⟨hd.dt.own.set fun e => by have := m2 _ e; omega, fun b hb => by have := m2 b hb; omega⟩, hd.dj⟩, hn, h1, h2⟩, ?_⟩
  exact ((Frm.refl hc).app.trans (hf.trans hg)).set b1 (Nat.le_refl _) (by omega)

theorem OwnRow.wr1 {H : AH} {b o : Nat} {cs : List Value} {l : List Int} {k : Nat} {x : Int} (h1 : H[b]? = some ⟨cs, .own⟩) (h2 : o + l.length ≤ cs.length) (h3 : ∀ (i : Nat) x, l[i]? = some x → cs[o + i]? = some (.int .i64 x)) (hk : k < l.length) :
    OwnRow (H.set b ⟨cs.set (o + k) (.int .i64 x), .own⟩) (.slice (some ⟨b, o, none⟩) l.length 1) (l.set k x) := by
  refine .inr ⟨b, o, cs.set (o + k) (.int .i64 x), by rw [List.length_set], set_at h1, by simp; omega, ?_⟩
  refine List.ext_getElem? fun i => ?_
  rw [List.length_set]
  rcases Nat.lt_or_ge i l.length with h | h
  · rw [List.getElem?_take_of_lt h, List.getElem?_drop]
    simp only [ints, List.getElem?_map]
    rcases Nat.eq_or_lt_of_le (Nat.zero_le 0) with _ | h0
    · by_cases e : k = i
      · subst e
        rw [List.getElem?_set_self (by omega), List.getElem?_set_self hk]; rfl
      · rw [List.getElem?_set_ne (by omega), List.getElem?_set_ne e, List.getElem?_eq_getElem h, h3 i _ (List.getElem?_eq_getElem h)]; rfl
    · omega
  · rw [List.getElem?_eq_none (by simp; omega), List.getElem?_eq_none (by simp [ints]; omega)]
theorem nints {n : Nat} : (List.replicate n [Value.int .i64 0]).flatten = ints (List.replicate n 0) := by
  rw [List.flatten_replicate_singleton]; simp [ints]
theorem DR.set {H0 H : AH} {v : Value} {l : List Int} {b : Nat} {k : Blk} (h : DR H0 H v l) (hb : blkOf v ≠ some b) : DR H0 (H.set b k) v l := ⟨h.own.set hb, h.fr⟩
theorem DA.set {H0 H : AH} {p q : Value} {sh dt : List Int} {b : Nat} {k : Blk} (h : DA H0 H p q sh dt) (h1 : blkOf p ≠ some b) (h2 : blkOf q ≠ some b) : DA H0 (H.set b k) p q sh dt := ⟨h.sh.set h1, h.dt.set h2, h.dj⟩
theorem DR.lt {H0 H : AH} {v : Value} {l : List Int} (h : DR H0 H v l) : ∀ b, blkOf v = some b → b < H.length := h.own.lt
theorem ne_of_lt {v : Value} {n b : Nat} (h1 : ∀ b, blkOf v = some b → b < n) (h : n ≤ b) : blkOf v ≠ some b := fun e => by have := h1 b e; omega
theorem ne_of_ge {v : Value} {n b : Nat} (h1 : ∀ b, blkOf v = some b → n ≤ b) (h : b < n) : blkOf v ≠ some b := fun e => by have := h1 b e; omega

theorem l3Draw_ok {H : AH} {cb : Nat} (hc : Cur H cb) : CallsA Try.prog 83 #[.pointer (some ⟨cb, 0, none⟩)] H fun r H' =>
    (∃ p q sh dt, r = .agg #[p, q] ∧ DA H H' p q sh dt ∧ sh.length ≤ 4 ∧ dt.length ≤ 301) ∧ Frm cb H H' := by
  have hlt := hc.lt
  refine w83 ?_
  unfold k83
  simp -implicitDefEqProofs only [kz, kk0, kk1, kk2, kk3, ↓two_true, ↓two_false, oS_some, oM_some, mkv, aggAt, Nat.reduceLeDiff, Nat.reduceSub, Nat.reduceMul, implies_true, Nat.reduceEqDiff, reduceIte, Nat.reduceAdd, Nat.reduceBEq, reduceCtorEq, al26, ap22_22, bd26, bs22_1, fa26_0, fa26_1, ix22, ld22, ld26, ln22, ms22, st3, st22, st26]
  refine (l3DrawRight_ok hc.mono).mono ?_
  rintro _ H1 ⟨⟨p, q, sh, dt, rfl, d, l1, l2, -⟩, hf⟩
  have l2 : dt.length ≤ 300 := by have := sizeI_le (l := sh); omega
  have b0 := hf.at (b := H.length) (by rw [gt0]; rfl) (by omega)
  have hl1 := hf.len
  simp only [List.length_append, List.length_cons, List.length_nil] at hl1
  have hlt2 : cb < (H ++ [⟨[.slice none 0 0, .slice none 0 0], .own⟩] : AH).length := by simp; omega
  obtain ⟨pa, pc, rfl⟩ := d.sh.own.isSlice
  obtain ⟨qa, qc, rfl⟩ := d.dt.own.isSlice
  simp -implicitDefEqProofs only [kz, kk0, kk1, kk2, kk3, ↓two_true, ↓two_false, oS_some, oM_some, mkv, aggAt, Nat.reduceLeDiff, Nat.reduceSub, Nat.reduceMul, implies_true, Nat.reduceEqDiff, reduceIte, Nat.reduceAdd, Nat.reduceBEq, reduceCtorEq, al26, ap22_22, bd26, bs22_1, fa26_0, fa26_1, ix22, ld22, ld26, ln22, ms22, st3, st22, st26]
  have hf := (Frm.refl hc).app.trans hf
  have p1 := d.sh.lt
  have q1 := d.dt.lt
  have p0 : ∀ b, blkOf (.slice pa sh.length pc) = some b → H.length + 1 ≤ b := fun b hb => by have := d.sh.fr b hb; simpa using this
  have q0 : ∀ b, blkOf (.slice qa dt.length qc) = some b → H.length + 1 ≤ b := fun b hb => by have := d.dt.fr b hb; simpa using this
  have d := (d.mono (L := [⟨[.slice pa sh.length pc, .slice qa dt.length qc], .own⟩])).back (H0 := H) (by simp)
  have bo : (H1 ++ [⟨[.slice pa sh.length pc, .slice qa dt.length qc], .own⟩] : AH)[H1.length]? = some ⟨[.slice pa sh.length pc, .slice qa dt.length qc], .own⟩ := by rw [gt0]; rfl
  have hf := hf.app (L := [⟨[.slice pa sh.length pc, .slice qa dt.length qc], .own⟩])
  have b0 := gtl (L := [⟨[.slice pa sh.length pc, .slice qa dt.length qc], .own⟩]) b0
  have hlo : (H1 ++ [⟨[.slice pa sh.length pc, .slice qa dt.length qc], .own⟩] : AH).length = H1.length + 1 := by simp
  generalize (H1 ++ [⟨[.slice pa sh.length pc, .slice qa dt.length qc], .own⟩] : AH) = H2 at *
  refine (l1Below_ok hf.cur).mono ?_
  rintro _ H3 ⟨⟨v, rfl, _⟩, hg⟩
  have hl3 := hg.len
  have d := d.frm hg hlt
  have bo := hg.at bo (by omega)
  have b0 := hg.at b0 (by omega)
  have hf := hf.trans hg
  clear hg
  simp -implicitDefEqProofs only [kz, kk0, kk1, kk2, kk3, ↓two_true, ↓two_false, oS_some, oM_some, mkv, aggAt, Nat.reduceLeDiff, Nat.reduceSub, Nat.reduceMul, implies_true, Nat.reduceEqDiff, reduceIte, Nat.reduceAdd, Nat.reduceBEq, reduceCtorEq, al26, ap22_22, bd26, bs22_1, fa26_0, fa26_1, ix22, ld22, ld26, ln22, ms22, st3, st22, st26]
  refine two_intro (fun h => ?_) (fun h => two_intro (fun h => ?_) (fun h => two_intro (fun h => ?_) (fun h => two_intro (fun h => ?_) (fun h => ?_))))
  · simp -implicitDefEqProofs only [kz, kk0, kk1, kk2, kk3, ↓two_true, ↓two_false, oS_some, oM_some, mkv, aggAt, Nat.reduceLeDiff, Nat.reduceSub, Nat.reduceMul, implies_true, Nat.reduceEqDiff, reduceIte, Nat.reduceAdd, Nat.reduceBEq, reduceCtorEq, al26, ap22_22, bd26, bs22_1, fa26_0, fa26_1, ix22, ld22, ld26, ln22, ms22, st3, st22, st26, rd_own bo]
    refine oA_own d.dt.own.mono intRow1 (by simp; omega) fun a2 c2 H4 o4 x4 => ?_
    have bo4 := x4.at (gtl bo) (ne_of_lt q1 (Nat.le_refl _))
    have b04 := x4.at (gtl b0) (ne_of_ge q0 (by omega))
    have b05 : (H4.set H1.length ⟨[.slice pa sh.length pc, .slice a2 (dt.length + 1) c2], .own⟩)[H.length]? = _ := (List.getElem?_set_ne (by omega)).trans b04
    have e5 := rd_own (set_at (k' := ⟨[.slice pa sh.length pc, .slice a2 (dt.length + 1) c2], .own⟩) bo4)
    have e6 := rd_own (set_at (k' := ⟨[.slice pa sh.length pc, .slice a2 (dt.length + 1) c2], .own⟩) b05)
    simp -implicitDefEqProofs only [kz, kk0, kk1, kk2, kk3, ↓two_true, ↓two_false, oS_some, oM_some, mkv, aggAt, Nat.reduceLeDiff, Nat.reduceSub, Nat.reduceMul, implies_true, Nat.reduceEqDiff, reduceIte, Nat.reduceAdd, Nat.reduceBEq, reduceCtorEq, al26, ap22_22, bd26, bs22_1, fa26_0, fa26_1, ix22, ld22, ld26, ln22, ms22, st3, st22, st26, wrt_own bo4, e5, wrt_own b05, e6]
    have n2 : ∀ b, blkOf (.slice a2 (dt.length + 1) c2) = some b → H.length + 1 ≤ b ∧ b ≠ H1.length := fun b hb => by
      rcases x4.new b hb with h | h
      · have := q0 b h; have := q1 b h; omega
      · simp at h; omega
    have s4 := x4.row d.sh.mono d.dj
    refine ⟨⟨_, _, sh, dt ++ [1], rfl, ⟨(s4.set (ne_of_lt p1 (Nat.le_refl _))).set (ne_of_ge p0 (by omega)), ⟨(o4.set fun e => (n2 _ e).2 rfl).set fun e => ?_, fun b hb => ?_⟩, fun b h1 h2 => ?_⟩, by omega, by simp; omega⟩, ?_⟩
    · have := n2 _ e; omega
    · have := n2 b hb; omega
    · rcases x4.new b h2 with h | h
      · exact d.dj b h1 h
      · have := p1 b h1; simp at h; omega
    · exact ((hf.app.push d.dt.mono hlt x4).set bo4 (by omega) (by omega)).set b05 (Nat.le_refl _) (by omega)
  · refine (l2Draw_ok hf.cur).mono ?_
    rintro _ H4 ⟨⟨l, hl, ln⟩, hg⟩
    obtain ⟨la, lc, rfl⟩ := hl.own.isSlice
    have bo4 := hg.at bo (by omega)
    have b04 := hg.at b0 (by omega)
    have d := d.frm hg hlt
    have b05 : (H4.set H1.length ⟨[.slice la l.length lc, .slice qa dt.length qc], .own⟩)[H.length]? = _ := (List.getElem?_set_ne (by omega)).trans b04
    have e5 := rd_own (set_at (k' := ⟨[.slice la l.length lc, .slice qa dt.length qc], .own⟩) bo4)
    have e6 := rd_own (set_at (k' := ⟨[.slice la l.length lc, .slice qa dt.length qc], .own⟩) b05)
    simp -implicitDefEqProofs only [kz, kk0, kk1, kk2, kk3, ↓two_true, ↓two_false, oS_some, oM_some, mkv, aggAt, Nat.reduceLeDiff, Nat.reduceSub, Nat.reduceMul, implies_true, Nat.reduceEqDiff, reduceIte, Nat.reduceAdd, Nat.reduceBEq, reduceCtorEq, al26, ap22_22, bd26, bs22_1, fa26_0, fa26_1, ix22, ld22, ld26, ln22, ms22, st3, st22, st26, wrt_own bo4, e5, wrt_own b05, e6]
    have n2 : ∀ b, blkOf (.slice la l.length lc) = some b → H3.length ≤ b := hl.fr
    refine ⟨⟨_, _, l, dt, rfl, ⟨((hl.back (by omega)).set (ne_of_ge n2 (by omega))).set (ne_of_ge n2 (by omega)), (d.dt.set (ne_of_lt q1 (Nat.le_refl _))).set (ne_of_ge q0 (by omega)), fun b h1 h2 => ?_⟩, by omega, by omega⟩, ?_⟩
    · have := n2 b h1; have := q1 b h2; omega
    · exact ((hf.trans hg).set bo4 (by omega) (by omega)).set b05 (Nat.le_refl _) (by omega)
  · simp -implicitDefEqProofs only [kz, kk0, kk1, kk2, kk3, ↓two_true, ↓two_false, oS_some, oM_some, mkv, aggAt, Nat.reduceLeDiff, Nat.reduceSub, Nat.reduceMul, implies_true, Nat.reduceEqDiff, reduceIte, Nat.reduceAdd, Nat.reduceBEq, reduceCtorEq, al26, ap22_22, bd26, bs22_1, fa26_0, fa26_1, ix22, ld22, ld26, ln22, ms22, st3, st22, st26, rd_own bo]
    refine two_intro (fun h => ?_) (fun h => ?_)
    · have hpos : 0 < dt.length := by simpa using h
      refine (l1Below_ok hf.cur).mono ?_
      rintro _ H4 ⟨⟨k, rfl, _, hk⟩, hg⟩
      have hk := hk (by omega)
      obtain ⟨k, rfl⟩ : ∃ j : Nat, k = j := ⟨k.toNat, by omega⟩
      have bo4 := hg.at bo (by omega)
      have b04 := hg.at b0 (by omega)
      have d := d.frm hg hlt
      have hf := hf.trans hg
      simp -implicitDefEqProofs only [kz, kk0, kk1, kk2, kk3, ↓two_true, ↓two_false, oS_some, oM_some, mkv, aggAt, Nat.reduceLeDiff, Nat.reduceSub, Nat.reduceMul, implies_true, Nat.reduceEqDiff, reduceIte, Nat.reduceAdd, Nat.reduceBEq, reduceCtorEq, al26, ap22_22, bd26, bs22_1, fa26_0, fa26_1, ix22, ld22, ld26, ln22, ms22, st3, st22, st26, rd_own bo, rd_own bo4]
      refine (l1DrawRaw_ok hf.cur).mono ?_
      rintro _ H5 ⟨⟨x, rfl, _⟩, hg⟩
      have bo5 := hg.at bo4 (by omega)
      have b05 := hg.at b04 (by omega)
      have d := d.frm hg hlt
      have hf := hf.trans hg
      obtain ⟨b, o, cs, hqv, hb, hle, hcs⟩ := d.dt.own.blk hpos
      injection hqv with e1 _ e2
      subst e1; subst e2
      have hbq := q1 b rfl
      have hbp := q0 b rfl
      have bo6 : (H5.set b ⟨cs.set (o + k) (.int .i64 x), .own⟩)[H1.length]? = _ := (List.getElem?_set_ne (by omega)).trans bo5
      have b06 : (H5.set b ⟨cs.set (o + k) (.int .i64 x), .own⟩)[H.length]? = _ := (List.getElem?_set_ne (by omega)).trans b05
      have e7 := rd_own (set_at (k' := ⟨[.slice pa sh.length pc, .slice (some ⟨b, o, none⟩) dt.length 1], .own⟩) b06)
      simp -implicitDefEqProofs only [kz, kk0, kk1, kk2, kk3, ↓two_true, ↓two_false, oS_some, oM_some, mkv, aggAt, Nat.reduceLeDiff, Nat.reduceSub, Nat.reduceMul, implies_true, Nat.reduceEqDiff, reduceIte, Nat.reduceAdd, Nat.reduceBEq, reduceCtorEq, al26, ap22_22, bd26, bs22_1, fa26_0, fa26_1, ix22, ld22, ld26, ln22, ms22, st3, st22, st26, rd_own bo, rd_own bo4, rd_own bo5, Int.toNat_natCast, Nat.mul_one, wrt_own hb, rd_own bo6, wrt_own b06, e7]
      have hkl : k < dt.length := by omega
      have w := OwnRow.wr1 (x := x) hb hle hcs hkl
      refine ⟨⟨by omega, by omega⟩, by omega, ⟨⟨_, _, sh, dt.set k x, rfl, ⟨(d.sh.set fun e => d.dj b e rfl).set (ne_of_ge p0 (by omega)), ⟨w.set (ne_of_ge q0 (by omega)), d.dt.fr⟩, d.dj⟩, by omega, by simp; omega⟩, ?_⟩⟩
      exact (hf.set hb (by omega) (by omega)).set b06 (Nat.le_refl _) (by omega)
    · have e7 := rd_own (set_at (k' := ⟨[.slice pa sh.length pc, .slice qa dt.length qc], .own⟩) b0)
      simp -implicitDefEqProofs only [kz, kk0, kk1, kk2, kk3, ↓two_true, ↓two_false, oS_some, oM_some, mkv, aggAt, Nat.reduceLeDiff, Nat.reduceSub, Nat.reduceMul, implies_true, Nat.reduceEqDiff, reduceIte, Nat.reduceAdd, Nat.reduceBEq, reduceCtorEq, al26, ap22_22, bd26, bs22_1, fa26_0, fa26_1, ix22, ld22, ld26, ln22, ms22, st3, st22, st26, rd_own bo, wrt_own b0, e7]
      exact ⟨⟨_, _, sh, dt, rfl, d.set (ne_of_ge p0 (by omega)) (ne_of_ge q0 (by omega)), by omega, by omega⟩, hf.set b0 (Nat.le_refl _) (by omega)⟩
  · refine (l1Below_ok hf.cur.mono).mono ?_
    rintro _ H4 ⟨⟨k, rfl, _, hk⟩, hg⟩
    have hk := hk (by omega)
    simp -implicitDefEqProofs only [kz, kk0, kk1, kk2, kk3, ↓two_true, ↓two_false, oS_some, oM_some, mkv, aggAt, Nat.reduceLeDiff, Nat.reduceSub, Nat.reduceMul, implies_true, Nat.reduceEqDiff, reduceIte, Nat.reduceAdd, Nat.reduceBEq, reduceCtorEq, al26, ap22_22, bd26, bs22_1, fa26_0, fa26_1, ix22, ld22, ld26, ln22, ms22, st3, st22, st26, rd_own bo]
    rw [IntWalk.i64_in (300 + k) (by omega)]
    obtain ⟨n, hn⟩ : ∃ n : Nat, n = (300 + k).toNat := ⟨_, rfl⟩
    rw [← hn, nints]
    have hg0 : Frm cb H H4 := hf.app.trans hg
    have o300 : OwnRow H4 (.slice (some ⟨H3.length, 0, none⟩) 1 1) [300] := hg.own (OwnRow.new (l := [300])) (by simp [blkOf]; omega)
    have hl4 := hg.len
    simp only [List.length_append, List.length_cons, List.length_nil] at hl4
    have bo4 := gtl (L := [⟨ints (List.replicate n 0), .own⟩]) (hg.at (gtl bo) (by omega))
    have b04 := gtl (L := [⟨ints (List.replicate n 0), .own⟩]) (hg.at (gtl b0) (by omega))
    have on : OwnRow (H4 ++ [⟨ints (List.replicate n 0), .own⟩]) (.slice (some ⟨H4.length, 0, none⟩) n 1) (List.replicate n 0) := by
      have := OwnRow.new (H := H4) (l := List.replicate n 0)
      rwa [List.length_replicate] at this
    have o301 := o300.mono (L := [⟨ints (List.replicate n 0), .own⟩])
    have hf5 := hg0.app (L := [⟨ints (List.replicate n 0), .own⟩])
    refine ⟨by omega, ?_⟩
    generalize (H4 ++ [⟨ints (List.replicate n 0), .own⟩] : AH) = H5 at *
    have b05 : (H5.set H1.length ⟨[.slice (some ⟨H3.length, 0, none⟩) 1 1, .slice (some ⟨H4.length, 0, none⟩) n 1], .own⟩)[H.length]? = _ := (List.getElem?_set_ne (by omega)).trans b04
    have e5 := rd_own (set_at (k' := ⟨[.slice (some ⟨H3.length, 0, none⟩) 1 1, .slice (some ⟨H4.length, 0, none⟩) n 1], .own⟩) bo4)
    have e6 := rd_own (set_at (k' := ⟨[.slice (some ⟨H3.length, 0, none⟩) 1 1, .slice (some ⟨H4.length, 0, none⟩) n 1], .own⟩) b05)
    simp -implicitDefEqProofs only [kz, kk0, kk1, kk2, kk3, ↓two_true, ↓two_false, oS_some, oM_some, mkv, aggAt, Nat.reduceLeDiff, Nat.reduceSub, Nat.reduceMul, implies_true, Nat.reduceEqDiff, reduceIte, Nat.reduceAdd, Nat.reduceBEq, reduceCtorEq, al26, ap22_22, bd26, bs22_1, fa26_0, fa26_1, ix22, ld22, ld26, ln22, ms22, st3, st22, st26, wrt_own bo4, e5, wrt_own b05, e6]
    have m1 : ∀ b, blkOf (.slice (some ⟨H3.length, 0, none⟩) 1 1) = some b → b = H3.length := fun b hb => by simp [blkOf] at hb; omega
    have m2 : ∀ b, blkOf (.slice (some ⟨H4.length, 0, none⟩) n 1) = some b → b = H4.length := fun b hb => by simp [blkOf] at hb; omega
    refine ⟨⟨_, _, [300], List.replicate n 0, rfl, ⟨⟨(o301.set fun e => ?_).set fun e => ?_, fun b hb => ?_⟩, ⟨(on.set fun e => ?_).set fun e => ?_, fun b hb => ?_⟩, fun b h1 h2 => ?_⟩, by simp, by simp; omega⟩, ?_⟩
    · have := m1 _ e; omega
    · have := m1 _ e; omega
    · have := m1 _ hb; omega
    · have := m2 _ e; omega
    · have := m2 _ e; omega
    · have := m2 _ hb; omega
    · have := m1 _ h1; have := m2 _ h2; omega
    · exact (hf5.set bo4 (by omega) (by omega)).set b05 (Nat.le_refl _) (by omega)
  · have e7 := rd_own (set_at (k' := ⟨[.slice pa sh.length pc, .slice qa dt.length qc], .own⟩) b0)
    simp -implicitDefEqProofs only [kz, kk0, kk1, kk2, kk3, ↓two_true, ↓two_false, oS_some, oM_some, mkv, aggAt, Nat.reduceLeDiff, Nat.reduceSub, Nat.reduceMul, implies_true, Nat.reduceEqDiff, reduceIte, Nat.reduceAdd, Nat.reduceBEq, reduceCtorEq, al26, ap22_22, bd26, bs22_1, fa26_0, fa26_1, ix22, ld22, ld26, ln22, ms22, st3, st22, st26, rd_own bo, wrt_own b0, e7]
    exact ⟨⟨_, _, sh, dt, rfl, d.set (ne_of_ge p0 (by omega)) (ne_of_ge q0 (by omega)), by omega, by omega⟩, hf.set b0 (Nat.le_refl _) (by omega)⟩

inductive It where
  | box (o : Nat) (cs : List Value)
  | row (v : Value) (l : List Int)
  | cmp (x : Comp) (V : List CV)
def It.ok (H : AH) : It → Prop
  | .box o cs => H[o]? = some ⟨cs, .own⟩
  | .row v l => OwnRow H v l
  | .cmp x V => x.own H ∧ cvs H x.xs = V
def It.bs : It → Nat → Prop
  | .box o _, b => b = o
  | .row v _, b => blkOf v = some b
  | .cmp x _, b => x.bs b
theorem It.ok.same {H H' : AH} {x : It} (h : x.ok H) (hs : ∀ b, x.bs b → H'[b]? = H[b]?) : x.ok H' := by
  cases x with
  | box o cs => show H'[o]? = _; rw [hs o rfl]; exact h
  | row v l => exact OwnRow.same h hs
  | cmp x V => exact ⟨h.1.same hs, by rw [(Comp.rd.same h.1.rd hs).2]; exact h.2⟩
theorem OwnC.ownb {H : AH} {y : Value} (h : OwnC H y) : ∀ b, blkOf y = some b → ∃ cs, H[b]? = some (⟨cs, .own⟩ : Blk) := by
  intro b hb
  rcases h with ⟨n, rfl⟩ | ⟨n, rfl⟩ | ⟨e, _⟩ | ⟨b', o, cs, e, h2, _⟩
  · simp [blkOf] at hb
  · simp [blkOf] at hb
  · rw [e] at hb; simp [blkOf] at hb
  · rw [e] at hb; simp [blkOf] at hb; subst hb; exact ⟨cs, h2⟩
theorem It.ok.ownb {H : AH} {x : It} (h : x.ok H) : ∀ b, x.bs b → ∃ cs, H[b]? = some (⟨cs, .own⟩ : Blk) := by
  intro b hb
  cases x with
  | box o cs => cases hb; exact ⟨cs, h⟩
  | row v l =>
    rcases h with ⟨e, _⟩ | ⟨b', o, cs, e, h2, _⟩
    · rw [e] at hb; simp [It.bs, blkOf] at hb
    · rw [e] at hb; simp [It.bs, blkOf] at hb; subst hb; exact ⟨cs, h2⟩
  | cmp x V =>
    obtain ⟨h, _⟩ := h
    cases x with
    | cells ks xs =>
      obtain ⟨y, hy, e⟩ := hb
      exact (h.2.1 y hy).ownb b e
    | row v ks n xs =>
      rcases hb with hb | ⟨y, hy, e⟩
      · rcases (show OT H v ks n xs from h).row with ⟨h1, _⟩ | ⟨b', o, cs, h1, h2, h3⟩
        · rw [h1] at hb; simp [blkOf] at hb
        · rw [h1] at hb; simp [blkOf] at hb; subst hb; exact ⟨cs, h2⟩
      · obtain ⟨j, hj⟩ := List.mem_iff_getElem?.1 hy
        exact ((show OT H v ks n xs from h).own j y hj).ownb b e
theorem It.ok.lt {H : AH} {x : It} (h : x.ok H) : ∀ b, x.bs b → b < H.length := fun b hb => by
  obtain ⟨cs, h⟩ := h.ownb b hb
  exact (List.getElem?_eq_some_iff.1 h).1
/-- What a function holds: each by itself, none older than the call; a cursor may be there too. -/
structure LD (c : Option Nat) (H0 H : AH) (L : List It) : Prop where
  ok : ∀ (i : Nat) x, L[i]? = some x → x.ok H
  fr : ∀ (i : Nat) x, L[i]? = some x → ∀ b, x.bs b → H0.length ≤ b
  dj : ∀ (i j : Nat) x y, i ≠ j → L[i]? = some x → L[j]? = some y → ∀ b, x.bs b → ¬ y.bs b
  len : H0.length ≤ H.length
  keep : ∀ b, b < H0.length → c ≠ some b → H[b]? = H0[b]?
  cur : ∀ cb, c = some cb → Cur H cb
  nc : ∀ cb, c = some cb → ∀ (i : Nat) x, L[i]? = some x → ¬ x.bs cb
theorem LD.ext {H0 H : AH} {L : List It} (h : LD none H0 H L) : ∃ K, H = H0 ++ K := ext_of h.len fun b hb => h.keep b hb (by simp)
theorem LD.frm {cb : Nat} {H0 H : AH} {L : List It} (h : LD (some cb) H0 H L) : Frm cb H0 H := ⟨h.len, fun b hb hn => h.keep b hb (by simpa using Ne.symm hn), h.cur cb rfl⟩
theorem LD.nil {H : AH} : LD none H H [] := ⟨fun i x h => by simp at h, fun i x h => by simp at h, fun i j x y _ h => by simp at h, Nat.le_refl _, fun _ _ _ => rfl, fun _ h => by simp at h, fun _ h => by simp at h⟩
theorem LD.nilc {H : AH} {cb : Nat} (h : Cur H cb) : LD (some cb) H H [] := ⟨fun i x h => by simp at h, fun i x h => by simp at h, fun i j x y _ h => by simp at h, Nat.le_refl _, fun _ _ _ => rfl, fun b hb => by cases hb; exact h, fun _ _ i x h => by simp at h⟩
/-- Something new comes. -/
theorem LD.add {c : Option Nat} {H0 H H' : AH} {L : List It} {x : It} (h : LD c H0 H L) (hl : H.length ≤ H'.length) (hk : ∀ b, b < H.length → c ≠ some b → H'[b]? = H[b]?) (hc : ∀ cb, c = some cb → Cur H' cb) (hx : x.ok H') (hb : ∀ b, x.bs b → H.length ≤ b) : LD c H0 H' (x :: L) := by
  have same : ∀ (i : Nat) y, L[i]? = some y → y.ok H' := fun i y hy => (h.ok i y hy).same fun b hb => hk b ((h.ok i y hy).lt b hb) fun e => h.nc b e i y hy hb
  refine ⟨?_, ?_, ?_, Nat.le_trans h.len hl, fun b hb hn => ?_, hc, fun cb e => ?_⟩
  · rintro (_ | i) y hy
    · cases hy; exact hx
    · exact same i y hy
  · rintro (_ | i) y hy b hb2
    · cases hy; exact Nat.le_trans h.len (hb b hb2)
    · exact h.fr i y hy b hb2
  · rintro (_ | i) (_ | j) y z hne hy hz b h1 h2
    · exact hne rfl
    · cases hy; have := hb b h1; have := (h.ok j z hz).lt b h2; omega
    · cases hz; have := hb b h2; have := (h.ok i y hy).lt b h1; omega
    · exact h.dj i j y z (by omega) hy hz b h1 h2
  · rw [hk b (Nat.lt_of_lt_of_le hb h.len) hn, h.keep b hb hn]
  · rintro (_ | i) y hy h2
    · cases hy; have := hb cb h2; have := (h.cur cb e).lt; omega
    · exact h.nc cb e i y hy h2
theorem LD.tail {c : Option Nat} {H0 H : AH} {L : List It} {x : It} (h : LD c H0 H (x :: L)) : LD c H0 H L :=
  ⟨fun i y hy => h.ok (i + 1) y hy, fun i y hy => h.fr (i + 1) y hy, fun i j y z hne hy hz => h.dj (i + 1) (j + 1) y z (by omega) hy hz, h.len, h.keep, h.cur, fun cb e i y hy => h.nc cb e (i + 1) y hy⟩
theorem LD.call {cb : Nat} {H0 H H' : AH} {L : List It} (h : LD (some cb) H0 H L) (hf : Frm cb H H') : LD (some cb) H0 H' L :=
  (h.add (x := .row (.slice none 0 0) []) hf.len (fun b hb hn => hf.keep b hb (by simpa using Ne.symm hn)) (fun g e => by cases e; exact hf.cur) OwnRow.nil fun b hb => by simp [It.bs, blkOf] at hb).tail
theorem LD.extd {c : Option Nat} {H0 H H' : AH} {L : List It} (h : LD c H0 H L) (hf : ∃ K, H' = H ++ K) : LD c H0 H' L := by
  obtain ⟨K, rfl⟩ := hf
  exact (h.add (x := .row (.slice none 0 0) []) (by simp) (fun b hb _ => List.getElem?_append_left hb) (fun g e => (h.cur g e).mono) OwnRow.nil fun b hb => by simp [It.bs, blkOf] at hb).tail
theorem LD.box {c : Option Nat} {H0 H : AH} {L : List It} (h : LD c H0 H L) (cs : List Value) : LD c H0 (H ++ [⟨cs, .own⟩]) (.box H.length cs :: L) :=
  h.add (by simp) (fun b hb _ => List.getElem?_append_left hb) (fun g e => (h.cur g e).mono) (by show (H ++ [⟨cs, .own⟩])[H.length]? = _; rw [gt0]; rfl) fun b hb => by cases hb; exact Nat.le_refl _
/-- A row that a call that draws has made. -/
theorem LD.dr {cb : Nat} {H0 H H' : AH} {L : List It} {v : Value} {l : List Int} (h : LD (some cb) H0 H L) (hv : DR H H' v l) (hf : Frm cb H H') : LD (some cb) H0 H' (.row v l :: L) :=
  h.add hf.len (fun b hb hn => hf.keep b hb (by simpa using Ne.symm hn)) (fun g e => by cases e; exact hf.cur) hv.own hv.fr
theorem LD.nrow {c : Option Nat} {H0 H H' : AH} {L : List It} {v : Value} {l : List Int} (h : LD c H0 H L) (hv : DR H H' v l) (hf : ∃ K, H' = H ++ K) : LD c H0 H' (.row v l :: L) := by
  obtain ⟨K, rfl⟩ := hf
  exact h.add (by simp) (fun b hb _ => List.getElem?_append_left hb) (fun g e => (h.cur g e).mono) hv.own hv.fr
theorem LD.lit {c : Option Nat} {H0 H : AH} {L : List It} {cs : List Value} {n : Nat} (h : LD c H0 H L) (l : List Int) (he : cs = ints l) (hn : n = l.length) : LD c H0 (H ++ [⟨cs, .own⟩]) (.row (.slice (some ⟨H.length, 0, none⟩) n 1) l :: L) :=
  h.nrow (DR.lit l (Nat.le_refl _) he hn) ⟨_, rfl⟩
theorem LD.nrow2 {c : Option Nat} {H0 H H' : AH} {L : List It} {v w : Value} {l m : List Int} (h : LD c H0 H L) (hv : DR H H' v l) (hw : DR H H' w m) (hd : Dj v w) (hf : ∃ K, H' = H ++ K) : LD c H0 H' (.row v l :: .row w m :: L) := by
  have h1 := h.nrow hv hf
  have h2 := h.nrow hw hf
  refine ⟨?_, ?_, ?_, h1.len, h1.keep, h1.cur, fun cb e => ?_⟩
  · rintro (_ | i) y hy
    · cases hy; exact hv.own
    · exact h2.ok i y hy
  · rintro (_ | i) y hy b hb
    · cases hy; exact h1.fr 0 _ rfl b hb
    · exact h2.fr i y hy b hb
  · rintro (_ | _ | i) (_ | _ | j) y z hne hy hz b e1 e2
    · exact hne rfl
    · cases hy; cases hz; exact hd b e1 e2
    · exact h1.dj 0 (j + 1) y z (by omega) hy hz b e1 e2
    · cases hy; cases hz; exact hd b e2 e1
    · exact hne rfl
    · exact h2.dj 0 (j + 1) y z (by omega) hy hz b e1 e2
    · exact h1.dj (i + 1) 0 y z (by omega) hy hz b e1 e2
    · exact h2.dj (i + 1) 0 y z (by omega) hy hz b e1 e2
    · exact h1.dj (i + 1) (j + 1) y z (by omega) hy hz b e1 e2
  · rintro (_ | i) y hy
    · cases hy; exact h1.nc cb e 0 _ rfl
    · exact h2.nc cb e i y hy
theorem LD.aown {c : Option Nat} {H0 H H' : AH} {L : List It} {p q v : Value} {sh dt : List Int} (h : LD c H0 H L) (ha : AOwn H H' v sh dt p q) (hf : ∃ K, H' = H ++ K) : LD c H0 H' (.row p sh :: .row q dt :: L) :=
  h.nrow2 ⟨ha.sh, ha.n1⟩ ⟨ha.dt, ha.n2⟩ ha.dj hf
theorem LD.da {cb : Nat} {H0 H H' : AH} {L : List It} {p q : Value} {sh dt : List Int} (h : LD (some cb) H0 H L) (ha : DA H H' p q sh dt) (hf : Frm cb H H') : LD (some cb) H0 H' (.row p sh :: .row q dt :: L) := by
  have h1 := h.dr ha.sh hf
  have h2 := h.dr ha.dt hf
  have := (h.call hf)
  refine ⟨?_, ?_, ?_, h1.len, h1.keep, h1.cur, fun cb e => ?_⟩
  · rintro (_ | i) y hy
    · cases hy; exact ha.sh.own
    · exact h2.ok i y hy
  · rintro (_ | i) y hy b hb
    · cases hy; exact h1.fr 0 _ rfl b hb
    · exact h2.fr i y hy b hb
  · rintro (_ | _ | i) (_ | _ | j) y z hne hy hz b e1 e2
    · exact hne rfl
    · cases hy; cases hz; exact ha.dj b e1 e2
    · exact h1.dj 0 (j + 1) y z (by omega) hy hz b e1 e2
    · cases hy; cases hz; exact ha.dj b e2 e1
    · exact hne rfl
    · exact h2.dj 0 (j + 1) y z (by omega) hy hz b e1 e2
    · exact h1.dj (i + 1) 0 y z (by omega) hy hz b e1 e2
    · exact h2.dj (i + 1) 0 y z (by omega) hy hz b e1 e2
    · exact h1.dj (i + 1) (j + 1) y z (by omega) hy hz b e1 e2
  · rintro (_ | i) y hy
    · cases hy; exact h1.nc cb e 0 _ rfl
    · exact h2.nc cb e i y hy
theorem LD.rd {c : Option Nat} {H0 H : AH} {L : List It} {o : Nat} {cs : List Value} (h : LD c H0 H L) (i : Nat) (hi : L[i]? = some (.box o cs)) : rd H o = some cs ∧ wrt H o = some cs :=
  ⟨rd_own (h.ok i _ hi), wrt_own (h.ok i _ hi)⟩
theorem LD.own {c : Option Nat} {H0 H : AH} {L : List It} {v : Value} {l : List Int} (h : LD c H0 H L) (i : Nat) (hi : L[i]? = some (.row v l)) : OwnRow H v l := h.ok i _ hi
/-- One thing is turned. -/
theorem LD.upd {c : Option Nat} {H0 H H' : AH} {L : List It} {x x' : It} (h : LD c H0 H L) (i : Nat) (hi : L[i]? = some x) (hl : H.length ≤ H'.length) (hk : ∀ b, b < H.length → ¬ x.bs b → H'[b]? = H[b]?) (hx : x'.ok H') (hb : ∀ b, x'.bs b → x.bs b ∨ H.length ≤ b) : LD c H0 H' (L.set i x') := by
  have hil := (List.getElem?_eq_some_iff.1 hi).1
  have get : ∀ (j : Nat) y, (L.set i x')[j]? = some y → (j = i ∧ y = x') ∨ (j ≠ i ∧ L[j]? = some y) := fun j y hy => by
    rcases Nat.decEq i j with e | e
    · rw [List.getElem?_set_ne e] at hy; exact .inr ⟨Ne.symm e, hy⟩
    · subst e; rw [List.getElem?_set_self hil] at hy; cases hy; exact .inl ⟨rfl, rfl⟩
  refine ⟨fun j y hy => ?_, fun j y hy b hb2 => ?_, fun j k y z hne hy hz b e1 e2 => ?_, Nat.le_trans h.len hl, fun b hb2 hn => ?_, fun cb e => ?_, fun cb e j y hy h2 => ?_⟩
  · rcases get j y hy with ⟨rfl, rfl⟩ | ⟨hne, hy⟩
    · exact hx
    · exact (h.ok j y hy).same fun b hb2 => hk b ((h.ok j y hy).lt b hb2) (h.dj j i y x hne hy hi b hb2)
  · rcases get j y hy with ⟨rfl, rfl⟩ | ⟨hne, hy⟩
    · exact (hb b hb2).elim (h.fr j x hi b) fun h2 => Nat.le_trans h.len h2
    · exact h.fr j y hy b hb2
  · rcases get j y hy with ⟨rfl, rfl⟩ | ⟨hne1, hy'⟩
    · rcases get k z hz with ⟨rfl, rfl⟩ | ⟨hne2, hz⟩
      · exact hne rfl
      · exact (hb b e1).elim (fun e1 => h.dj j k x z hne hi hz b e1 e2) fun e1 => by have := (h.ok k z hz).lt b e2; omega
    · rcases get k z hz with ⟨rfl, rfl⟩ | ⟨hne2, hz⟩
      · exact (hb b e2).elim (fun e2 => h.dj j k y x hne hy' hi b e1 e2) fun e2 => by have := (h.ok j y hy').lt b e1; omega
      · exact h.dj j k y z hne hy' hz b e1 e2
  · rw [hk b (Nat.lt_of_lt_of_le hb2 h.len) fun e => by have := h.fr i x hi b e; omega, h.keep b hb2 hn]
  · have h2 := h.cur cb e
    refine h2.same (hk cb h2.lt (h.nc cb e i x hi)) fun b cs hb2 => ?_
    rw [hk b (List.getElem?_eq_some_iff.1 hb2).1 fun e => ?_]
    · exact hb2
    · obtain ⟨cs', h3⟩ := (h.ok i x hi).ownb b e
      rw [hb2] at h3; cases h3
  · rcases get j y hy with ⟨rfl, rfl⟩ | ⟨hne1, hy'⟩
    · exact (hb cb h2).elim (h.nc cb e j x hi) fun h3 => by have := (h.cur cb e).lt; omega
    · exact h.nc cb e j y hy' h2
theorem LD.cursor {H0 H H' : AH} {L : List It} {cb : Nat} (h : LD none H0 H L) (hf : ∃ K, H' = H ++ K) (hc : Cur H' cb) (hb : H.length ≤ cb) : LD (some cb) H0 H' L := by
  have h1 := h.extd hf
  exact ⟨h1.ok, h1.fr, h1.dj, h1.len, fun b hb _ => h1.keep b hb (by simp), fun g e => by cases e; exact hc, fun g e i x hx h2 => by cases e; have := (h.ok i x hx).lt _ h2; omega⟩
theorem LD.out {H0 H : AH} {L : List It} {cb : Nat} (h : LD (some cb) H0 H L) (hb : H0.length ≤ cb) : LD none H0 H L :=
  ⟨h.ok, h.fr, h.dj, h.len, fun b hb2 _ => h.keep b hb2 (by simp; omega), fun _ e => by simp at e, fun _ e => by simp at e⟩
theorem LD.set {c : Option Nat} {H0 H : AH} {L : List It} {o : Nat} {cs : List Value} (h : LD c H0 H L) (i : Nat) (hi : L[i]? = some (.box o cs)) (cs' : List Value) : LD c H0 (H.set o ⟨cs', .own⟩) (L.set i (.box o cs')) :=
  h.upd i hi (by simp) (fun b hb hn => List.getElem?_set_ne (fun e => hn e.symm)) (set_at (h.ok i _ hi)) fun b hb => .inl hb
theorem LD.push {c : Option Nat} {H0 H H' : AH} {L : List It} {v v' : Value} {l m : List Int} (h : LD c H0 H L) (i : Nat) (hi : L[i]? = some (.row v l)) (ho : OwnRow H' v' m) (ha : App H v H' v') : LD c H0 H' (L.set i (.row v' m)) :=
  h.upd i hi ha.len ha.keep ho ha.new
theorem LD.wr1 {c : Option Nat} {H0 H : AH} {L : List It} {b o : Nat} {cs : List Value} {l : List Int} {k : Nat} {x : Int} (h : LD c H0 H L) (i : Nat) (hi : L[i]? = some (.row (.slice (some ⟨b, o, none⟩) l.length 1) l)) (h1 : H[b]? = some ⟨cs, .own⟩) (h2 : o + l.length ≤ cs.length) (h3 : ∀ (i : Nat) x, l[i]? = some x → cs[o + i]? = some (.int .i64 x)) (hk : k < l.length) :
    LD c H0 (H.set b ⟨cs.set (o + k) (.int .i64 x), .own⟩) (L.set i (.row (.slice (some ⟨b, o, none⟩) l.length 1) (l.set k x))) :=
  h.upd i hi (by simp) (fun g hg hn => List.getElem?_set_ne (fun e => hn (by rw [← e]; rfl))) (OwnRow.wr1 h1 h2 h3 hk) fun g hg => .inl hg
theorem LD.join {c : Option Nat} {H0 H H' : AH} {L L' : List It} (h : LD c H0 H L) (g : LD none H H' L') : LD c H0 H' (L' ++ L) := by
  have h1 := h.extd g.ext
  have get : ∀ (i : Nat) x, (L' ++ L)[i]? = some x → (i < L'.length ∧ L'[i]? = some x) ∨ (L'.length ≤ i ∧ L[i - L'.length]? = some x) := fun i x hx => by
    rcases Nat.lt_or_ge i L'.length with e | e
    · rw [List.getElem?_append_left e] at hx; exact .inl ⟨e, hx⟩
    · rw [List.getElem?_append_right e] at hx; exact .inr ⟨e, hx⟩
  refine ⟨fun i x hx => ?_, fun i x hx b hb => ?_, fun i j x y hne hx hy b e1 e2 => ?_, h1.len, h1.keep, h1.cur, fun cb e i x hx hb => ?_⟩
  · rcases get i x hx with ⟨_, hx⟩ | ⟨_, hx⟩
    · exact g.ok _ x hx
    · exact h1.ok _ x hx
  · rcases get i x hx with ⟨_, hx⟩ | ⟨_, hx⟩
    · exact Nat.le_trans h.len (g.fr _ x hx b hb)
    · exact h1.fr _ x hx b hb
  · rcases get i x hx with ⟨a1, hx⟩ | ⟨a1, hx⟩ <;> rcases get j y hy with ⟨a2, hy⟩ | ⟨a2, hy⟩
    · exact g.dj i j x y hne hx hy b e1 e2
    · have := g.fr _ x hx b e1; have := (h.ok _ y hy).lt b e2; omega
    · have := g.fr _ y hy b e2; have := (h.ok _ x hx).lt b e1; omega
    · exact h1.dj _ _ x y (by omega) hx hy b e1 e2
  · rcases get i x hx with ⟨_, hx⟩ | ⟨_, hx⟩
    · have := g.fr _ x hx cb hb; have := (h.cur cb e).lt; omega
    · exact h1.nc cb e _ x hx hb
def pickL (L : List It) (is : List Nat) : List It := is.map fun i => (L[i]?).getD (.row (.slice none 0 0) [])
theorem LD.pick {c : Option Nat} {H0 H : AH} {L : List It} (h : LD c H0 H L) (is : List Nat) (hn : is.Nodup) : LD c H0 H (pickL L is) := by
  have get : ∀ (j : Nat) x, (pickL L is)[j]? = some x → ∃ i, is[j]? = some i ∧ (L[i]? = some x ∨ x = .row (.slice none 0 0) []) := fun j x hx => by
    simp only [pickL, List.getElem?_map, Option.map_eq_some_iff] at hx
    obtain ⟨i, hi, rfl⟩ := hx
    refine ⟨i, hi, ?_⟩
    cases hL : L[i]? with
    | none => exact .inr rfl
    | some y => exact .inl rfl
  have nob : ∀ b, ¬ (It.row (.slice none 0 0) []).bs b := fun b hb => by simp [It.bs, blkOf] at hb
  refine ⟨fun j x hx => ?_, fun j x hx b hb => ?_, fun j k x y hne hx hy b e1 e2 => ?_, h.len, h.keep, h.cur, fun cb e j x hx hb => ?_⟩
  · obtain ⟨i, _, h1 | rfl⟩ := get j x hx
    · exact h.ok i x h1
    · exact OwnRow.nil
  · obtain ⟨i, _, h1 | rfl⟩ := get j x hx
    · exact h.fr i x h1 b hb
    · exact (nob b hb).elim
  · obtain ⟨i, hi, h1 | rfl⟩ := get j x hx
    · obtain ⟨i', hi', h1' | rfl⟩ := get k y hy
      · refine h.dj i i' x y ?_ h1 h1' b e1 e2
        rintro rfl
        obtain ⟨l1, l2⟩ := List.getElem?_eq_some_iff.1 hi
        obtain ⟨l3, l4⟩ := List.getElem?_eq_some_iff.1 hi'
        have hp := List.pairwise_iff_getElem.1 hn
        rcases Nat.lt_or_gt_of_ne hne with e | e
        · exact hp _ _ l1 l3 e (l2.trans l4.symm)
        · exact hp _ _ l3 l1 e (l4.trans l2.symm)
      · exact nob b e2
    · exact nob b e1
  · obtain ⟨i, _, h1 | rfl⟩ := get j x hx
    · exact h.nc cb e i x h1 hb
    · exact nob cb hb
theorem LD.cells {c : Option Nat} {H0 H : AH} {L : List It} {v : Value} {l : List Int} (h : LD c H0 H L) (i : Nat) (hi : L[i]? = some (.row v l)) (hk : 0 < l.length) :
    ∃ b o cs, v = .slice (some ⟨b, o, none⟩) l.length 1 ∧ Go.Proofs.Ytmlimgdpcoloiaa.AM.rd H b = some cs ∧ ∀ (i : Nat) x, l[i]? = some x → cs[o + i]? = some (.int .i64 x) := by
  obtain ⟨b, o, cs, rfl, h1, h2, h3⟩ := (h.own i hi).blk hk
  exact ⟨b, o, cs, rfl, rd_own h1, h3⟩

/-- The bytes of a draw. -/
def BRv (H : AH) (v : Value) : Prop := ∃ a n c, v = .slice a n c ∧ n ≤ 1048576 ∧ BRow H a n c
theorem BRow.mono {H L : AH} {a : Option Addr} {n c : Nat} (h : BRow H a n c) : BRow (H ++ L) a n c := fun hn => by
  obtain ⟨b, o, cs, h1, h2, h3, h4⟩ := h hn
  exact ⟨b, o, cs, h1, h2, gtl h3, h4⟩
theorem BRv.ext {H H' : AH} {v : Value} (h : BRv H v) (he : ∃ K, H' = H ++ K) : BRv H' v := by
  obtain ⟨K, rfl⟩ := he
  obtain ⟨a, n, c, h1, h2, h3⟩ := h
  exact ⟨a, n, c, h1, h2, h3.mono⟩
/-- An array that may be read. -/
structure AR (H : AH) (p q : Value) (sh dt : List Int) : Prop where
  os : IntRow H p sh
  od : IntRow H q dt
  l1 : sh.length ≤ 1048576
  l2 : dt.length ≤ 1048576
theorem AR.ext {H H' : AH} {p q : Value} {sh dt : List Int} (h : AR H p q sh dt) (he : ∃ K, H' = H ++ K) : AR H' p q sh dt := ⟨h.os.ext he, h.od.ext he, h.l1, h.l2⟩
theorem AR.mono {H L : AH} {p q : Value} {sh dt : List Int} (h : AR H p q sh dt) : AR (H ++ L) p q sh dt := h.ext ⟨_, rfl⟩
theorem LD.ar {c : Option Nat} {H0 H : AH} {L : List It} {p q : Value} {sh dt : List Int} (h : LD c H0 H L) (i j : Nat) (hi : L[i]? = some (.row p sh)) (hj : L[j]? = some (.row q dt)) (l1 : sh.length ≤ 1048576) (l2 : dt.length ≤ 1048576) : AR H p q sh dt := ⟨(h.own i hi).int, (h.own j hj).int, l1, l2⟩
theorem LD.of {c : Option Nat} {H0 H : AH} {L L' : List It} (h : LD c H0 H L) (e : L = L') : LD c H0 H L' := by rw [← e]; exact h

theorem big_eq {a : Option Addr} {n c : Nat} {H : AH} {Φ : Value → AH → Prop} : CallsA Try.prog 21 #[.slice a n c] H Φ = Φ (.bool (decide (1048576 < (n : Int)))) H := by
  have : CallsA Try.prog 21 #[.slice a n c] H fun r H' => r = .bool (decide (1048576 < (n : Int))) ∧ H' = H := by
    refine w21 ?_
    unfold k21
    simp -implicitDefEqProofs [kk0, kk1, kk2, kk3, rW_block, ↓two_true, ↓two_false, rW_cond, rO_guard, oS_some, oM_some, mkv, aggAt, Nat.reduceLeDiff, Nat.reduceSub, Nat.reduceMul, cond_true, cond_false, Option.bind_some, List.length_append, List.length_cons, List.length_nil, List.append_assoc, List.cons_append, List.nil_append, List.set_cons_zero, List.set_cons_succ, List.size_toArray, List.all_cons, List.all_nil, List.drop_zero, List.drop_succ_cons, List.take_succ_cons, List.take_zero, List.mem_cons, Prod.mk.injEq, List.not_mem_nil, implies_true, List.getElem?_toArray, List.getElem?_cons_zero, List.getElem?_cons_succ, List.getElem?_nil, Option.getD_some, Option.getD_none, Nat.reduceEqDiff, reduceIte, Nat.reduceAdd, List.map_toArray, List.map_cons, List.map_nil, Bool.false_eq_true, Nat.reduceBEq, Option.map_some, Option.map_none, reduceCtorEq, ln35]
  exact this.eq0

theorem l1New_ok {H : AH} {v : Value} (hv : BRv H v) : CallsA Try.prog 81 #[v] H fun r H' => ∃ cb, r = .pointer (some ⟨cb, 0, none⟩) ∧ Cur H' cb ∧ H.length ≤ cb ∧ ∃ K, H' = H ++ K := by
  obtain ⟨a, n, c, rfl, hn, hr⟩ := hv
  refine w81 ?_
  unfold k81
  simp -implicitDefEqProofs only [kz, kk0, kk1, kk2, kk3, ↓two_true, ↓two_false, oS_some, oM_some, mkv, aggAt, Nat.reduceLeDiff, Nat.reduceSub, Nat.reduceMul, implies_true, Nat.reduceEqDiff, reduceIte, Nat.reduceAdd, Nat.reduceBEq, reduceCtorEq, bd146, cv5_3, ix35, ld5, ln35]
  refine rW_loop (σ := Nat) (fun i tm H' => tm 0 = .slice a n c ∧ (∃ h : Int, tm 3 = .int .i64 h) ∧ tm 4 = .int .i64 i ∧ H' = H ∧ i ≤ n) (fun i => n - i) 0 ?_ ?_
  · exact ⟨rfl, ⟨_, rfl⟩, rfl, rfl, Nat.zero_le _⟩
  · rintro i tm H' ⟨h0, ⟨h, h3⟩, h4, rfl, hi⟩
    simp -implicitDefEqProofs only [kz, kk0, kk1, kk2, kk3, ↓two_true, ↓two_false, oS_some, oM_some, mkv, aggAt, Nat.reduceLeDiff, Nat.reduceSub, Nat.reduceMul, implies_true, Nat.reduceEqDiff, reduceIte, Nat.reduceAdd, Nat.reduceBEq, reduceCtorEq, bd146, cv5_3, ix35, ld5, ln35, h0, h3, h4]
    have fin : ∃ cb, Value.pointer (some ⟨H'.length, 0, none⟩) = Value.pointer (some ⟨cb, 0, none⟩) ∧ Cur (H' ++ [⟨[.slice a n c, .int .i64 0, .int .i64 h], .own⟩]) cb ∧ H'.length ≤ cb ∧ ∃ K, H' ++ [⟨[.slice a n c, .int .i64 0, .int .i64 h], .own⟩] = H' ++ K :=
      ⟨_, rfl, ⟨a, n, c, 0, h, by rw [gt0]; rfl, Nat.zero_le _, hn, hr.mono⟩, Nat.le_refl _, _, rfl⟩
    refine two_intro (fun hc => two_intro (fun hc2 => ?_) (fun hc2 => fin)) (fun hc => fin)
    have hc' : i < n := by simpa using hc
    obtain ⟨b, o, cs, rfl, rfl, hb, hcell⟩ := hr (by omega)
    obtain ⟨v, hv, v0, v1⟩ := hcell i hc'
    have hrb : rd H' b = some cs := by unfold rd; rw [hb]; rfl
    simp -implicitDefEqProofs only [kz, kk0, kk1, kk2, kk3, ↓two_true, ↓two_false, oS_some, oM_some, mkv, aggAt, Nat.reduceLeDiff, Nat.reduceSub, Nat.reduceMul, implies_true, Nat.reduceEqDiff, reduceIte, Nat.reduceAdd, Nat.reduceBEq, reduceCtorEq, bd146, cv5_3, ix35, ld5, ln35, h0, h3, h4, Int.toNat_natCast, Nat.mul_one, hrb, hv, IntWalk.i64_in (↑i + 1) (by omega)]
    exact ⟨⟨by omega, by omega⟩, i + 1, by omega, ⟨_, rfl⟩, by simp, hc'⟩
def Ans1 (H H' : AH) (r : Value) (R : (List Int × List Int) × Int) : Prop := ∃ p q, r = .tuple #[.agg #[p, q], .int .i64 R.2] ∧ LD none H H' [.row p R.1.1, .row q R.1.2]
/-- A value that is an array, without a code. -/
def AnsA (H H' : AH) (r : Value) (R : List Int × List Int) : Prop := ∃ p q, r = .agg #[p, q] ∧ LD none H H' [.row p R.1, .row q R.2]
theorem Ans1.err {H H' : AH} {c : Int} {L : List It} (h : LD none H H' L) : Ans1 H H' (.tuple #[.agg #[.slice none 0 0, .slice none 0 0], .int .i64 c]) (([], []), c) :=
  ⟨_, _, rfl, (h.pick [] (by decide)).nrow2 ⟨OwnRow.nil, fun b hb => by simp [blkOf] at hb⟩ ⟨OwnRow.nil, fun b hb => by simp [blkOf] at hb⟩ (fun b hb => by simp [blkOf] at hb) ext_refl⟩
theorem LD.ans {H H' : AH} {L : List It} {p q : Value} {c : Int} {sh dt : List Int} (h : LD none H H' L) (i j : Nat) (hij : i ≠ j) (hi : L[i]? = some (.row p sh)) (hj : L[j]? = some (.row q dt)) : Ans1 H H' (.tuple #[.agg #[p, q], .int .i64 c]) ((sh, dt), c) := by
  have := h.pick [i, j] (by simp [hij])
  simp only [pickL, List.map_cons, List.map_nil, hi, hj, Option.getD_some] at this
  exact ⟨_, _, rfl, this⟩
theorem ARes.ld {H H' : AH} {r : Value} {R : (List Int × List Int) × Int} (h : ARes H H' r R) : Ans1 H H' r R := by
  obtain ⟨⟨a, c, b, d, rfl, h⟩, he⟩ := h
  exact ⟨_, _, rfl, LD.nil.aown h he⟩
theorem AR.o1 {H : AH} {p q : Value} {sh dt : List Int} (h : AR H p q sh dt) : ∃ a c b d, p = .slice a sh.length c ∧ q = .slice b dt.length d := by
  obtain ⟨a, c, e, _⟩ := h.os.op
  obtain ⟨b, d, e', _⟩ := h.od.op
  exact ⟨a, c, b, d, e, e'⟩
/-- The cells of a row that may be read. -/
theorem IntRow.cells {H : AH} {a : Option Addr} {n c : Nat} {l : List Int} (h : IntRow H (.slice a n c) l) {i : Nat} (hi : i < l.length) : n = l.length ∧ ∃ b o cs, a = some ⟨b, o, none⟩ ∧ c = 1 ∧ rd H b = some cs ∧ cs[o + i]? = some (.int .i64 l[i]) := by
  obtain ⟨a', c', e, g⟩ := h.op
  injection e with e1 e2 e3
  subst e1; subst e2; subst e3
  obtain ⟨b, o, cs, g1, g2, g3, g4, g5⟩ := g (by omega)
  exact ⟨rfl, b, o, cs, g1, g2, g3, g5 i hi⟩
theorem AR.lim {H : AH} {p q : Value} {sh dt : List Int} (h : AR H p q sh dt) : sh.length < 4611686018427387904 ∧ dt.length < 4611686018427387904 := by
  have := h.l1; have := h.l2; omega
theorem implOk_ar {H : AH} {p q : Value} {sh dt : List Int} (h : AR H p q sh dt) : CallsA Try.prog 33 #[.agg #[p, q]] H fun r H' => r = .bool (arrOk sh dt) ∧ ∃ K, H' = H ++ K := implArrayOk_ok h.os h.od h.lim.1 h.lim.2

theorem specOk_ar {H : AH} {p q : Value} {sh dt : List Int} (h : AR H p q sh dt) : CallsA Try.prog 58 #[.agg #[p, q]] H fun r H' => r = .bool (arrOk sh dt) ∧ ∃ K, H' = H ++ K := specArrayOk_ok h.os h.od h.lim.1 h.lim.2

theorem copyA_ok {H : AH} {p q : Value} {sh dt : List Int} (h : AR H p q sh dt) : CallsA Try.prog 66 #[.agg #[p, q]] H fun r H' => AnsA H H' r (sh, dt) := by
  refine (copyArray_ok h.os h.od (by have := h.l1; omega) (by have := h.l2; omega)).mono ?_
  rintro r H' ⟨⟨p', q', ao⟩, he⟩
  exact ⟨p', q', ao.eq, LD.nil.aown ao he⟩

theorem l3CopyA_ok {H : AH} {p q : Value} {sh dt : List Int} (h : AR H p q sh dt) : CallsA Try.prog 60 #[.agg #[p, q]] H fun r H' => AnsA H H' r (sh, dt) := by
  refine (l3Copy_ok h.os h.od (by have := h.l1; omega) (by have := h.l2; omega)).mono ?_
  rintro r H' ⟨⟨p', q', ao⟩, he⟩
  exact ⟨p', q', ao.eq, LD.nil.aown ao he⟩

/-- A table whose cells lie in what is never turned; its own block is the function's. -/
structure TabOk (B : Nat → Prop) (H : AH) (v : Value) (ks : List CK) (n : Nat) (xs : List Value) : Prop where
  len : xs.length = n * ks.length
  row : (v = .slice none 0 0 ∧ n = 0) ∨ ∃ b o cs, v = .slice (some ⟨b, o, none⟩) n ks.length ∧ H[b]? = some ⟨cs, .own⟩ ∧ o + n * ks.length ≤ cs.length ∧ ∀ (j : Nat) y, xs[j]? = some y → cs[o + j]? = some y
  cell : ∀ (i c : Nat) k y, i < n → ks[c]? = some k → xs[i * ks.length + c]? = some y → KOk H k y
  base : ∀ y ∈ xs, ∀ b, blkOf y = some b → B b
theorem TabOk.frow {B : Nat → Prop} {H : AH} {v : Value} {ks : List CK} {n : Nat} {xs : List Value} (h : TabOk B H v ks n xs) : FRow H v ks n xs := by
  refine ⟨h.len, ?_, h.cell⟩
  rcases h.row with h1 | ⟨b, o, cs, h1, h2, h3⟩
  · exact .inl h1
  · exact .inr ⟨b, o, cs, h1, rd_own h2, h3⟩
theorem TabOk.same {B B' : Nat → Prop} {H H' : AH} {v : Value} {ks : List CK} {n : Nat} {xs : List Value} (h : TabOk B H v ks n xs) (hv : ∀ b, blkOf v = some b → H'[b]? = H[b]?) (hB : ∀ b, B b → H'[b]? = H[b]?) (hBB : ∀ b, B b → B' b) : TabOk B' H' v ks n xs := by
  refine ⟨h.len, ?_, fun i c k y hi hk hy => (h.cell i c k y hi hk hy).same fun b hb => get_rd (hB b (h.base y (List.mem_of_getElem? hy) b hb)), fun y hy b hb => hBB b (h.base y hy b hb)⟩
  rcases h.row with h1 | ⟨b, o, cs, h1, h2, h3⟩
  · exact .inl h1
  · exact .inr ⟨b, o, cs, h1, by rw [hv b (by rw [h1]; rfl)]; exact h2, h3⟩
theorem TabOk.vals {B : Nat → Prop} {H H' : AH} {v : Value} {ks : List CK} {n : Nat} {xs : List Value} (h : TabOk B H v ks n xs) (hB : ∀ b, B b → H'[b]? = H[b]?) : cvs H' xs = cvs H xs :=
  FRow.cvs_same fun b ⟨y, hy, hb⟩ => get_rd (hB b (h.base y hy b hb))
/-- A table that is only read. -/
structure FTab (B : Nat → Prop) (H : AH) (v : Value) (ks : List CK) (n : Nat) (xs : List Value) : Prop where
  fr : FRow H v ks n xs
  base : ∀ b, (blkOf v = some b ∨ ∃ y ∈ xs, blkOf y = some b) → B b
inductive Ix where
  | own (x : It)
  | tab (v : Value) (ks : List CK) (n : Nat) (xs : List Value) (V : List CV)
  | fro (v : Value) (l : List Int)
  | ftab (v : Value) (ks : List CK) (n : Nat) (xs : List Value) (V : List CV)
def Ix.ok (B : Nat → Prop) (H : AH) : Ix → Prop
  | .own x => x.ok H
  | .tab v ks n xs V => TabOk B H v ks n xs ∧ cvs H xs = V
  | .fro v l => IntRow H v l ∧ ∀ b, blkOf v = some b → B b
  | .ftab v ks n xs V => FTab B H v ks n xs ∧ cvs H xs = V
def Ix.bs : Ix → Nat → Prop
  | .own x, b => x.bs b
  | .tab v _ _ _ _, b => blkOf v = some b
  | .fro _ _, _ => False
  | .ftab _ _ _ _ _, _ => False
theorem Ix.ok.same {B B' : Nat → Prop} {H H' : AH} {x : Ix} (h : x.ok B H) (hs : ∀ b, x.bs b → H'[b]? = H[b]?) (hB : ∀ b, B b → H'[b]? = H[b]?) (hBB : ∀ b, B b → B' b) : x.ok B' H' := by
  cases x with
  | own x => exact It.ok.same h hs
  | tab v ks n xs V => exact ⟨h.1.same hs hB hBB, (h.1.vals hB).trans h.2⟩
  | fro v l => exact ⟨h.1.same fun b o n c e => get_rd (hB b (h.2 b (by rw [e]; rfl))), fun b hb => hBB b (h.2 b hb)⟩
  | ftab v ks n xs V => exact ⟨⟨h.1.fr.same fun b hb => get_rd (hB b (h.1.base b hb)), fun b hb => hBB b (h.1.base b hb)⟩, (FRow.cvs_same fun b hb => get_rd (hB b (h.1.base b (.inr hb)))).trans h.2⟩
theorem Ix.ok.ownb {B : Nat → Prop} {H : AH} {x : Ix} (h : x.ok B H) : ∀ b, x.bs b → ∃ cs, H[b]? = some (⟨cs, .own⟩ : Blk) := by
  intro b hb
  cases x with
  | own x => exact It.ok.ownb h b hb
  | tab v ks n xs V =>
    rcases h.1.row with ⟨e, _⟩ | ⟨b', o, cs, e, h2, _⟩
    · rw [e] at hb; simp [Ix.bs, blkOf] at hb
    · rw [e] at hb; simp [Ix.bs, blkOf] at hb; subst hb; exact ⟨cs, h2⟩
  | fro v l => exact hb.elim
  | ftab v ks n xs V => exact hb.elim
theorem Ix.ok.lt {B : Nat → Prop} {H : AH} {x : Ix} (h : x.ok B H) : ∀ b, x.bs b → b < H.length := fun b hb => by
  obtain ⟨cs, h⟩ := h.ownb b hb
  exact (List.getElem?_eq_some_iff.1 h).1
structure LB (B : Nat → Prop) (c : Option Nat) (H0 H : AH) (L : List Ix) : Prop where
  ok : ∀ (i : Nat) x, L[i]? = some x → x.ok B H
  fr : ∀ (i : Nat) x, L[i]? = some x → ∀ b, x.bs b → ¬ B b ∧ H0.length ≤ b
  dj : ∀ (i j : Nat) x y, i ≠ j → L[i]? = some x → L[j]? = some y → ∀ b, x.bs b → ¬ y.bs b
  len : H0.length ≤ H.length
  keep : ∀ b, b < H0.length → c ≠ some b → H[b]? = H0[b]?
  b0 : ∀ b, b < H0.length → c ≠ some b → B b
  bl : ∀ b, B b → b < H.length ∧ c ≠ some b
  cur : ∀ cb, c = some cb → Cur H cb
  nc : ∀ cb, c = some cb → ∀ (i : Nat) x, L[i]? = some x → ¬ x.bs cb
/-- What a function holds: each by itself, none older than the call; and what it only reads. -/
def LX (c : Option Nat) (H0 H : AH) (L : List Ix) : Prop := ∃ B, LB B c H0 H L
theorem LX.ext {H0 H : AH} {L : List Ix} (h : LX none H0 H L) : ∃ K, H = H0 ++ K := by
  obtain ⟨B, h⟩ := h
  exact ext_of h.len fun b hb => h.keep b hb (by simp)
theorem LX.frm {cb : Nat} {H0 H : AH} {L : List Ix} (h : LX (some cb) H0 H L) : Frm cb H0 H := by
  obtain ⟨B, h⟩ := h
  exact ⟨h.len, fun b hb hn => h.keep b hb (by simpa using Ne.symm hn), h.cur cb rfl⟩
theorem LX.len {c : Option Nat} {H0 H : AH} {L : List Ix} (h : LX c H0 H L) : H0.length ≤ H.length := by
  obtain ⟨B, h⟩ := h; exact h.len
theorem LX.nil {H : AH} : LX none H H [] :=
  ⟨fun b => b < H.length, fun i x h => by simp at h, fun i x h => by simp at h, fun i j x y _ h => by simp at h, Nat.le_refl _, fun _ _ _ => rfl, fun b hb _ => hb, fun b hb => ⟨hb, by simp⟩, fun _ h => by simp at h, fun _ h => by simp at h⟩
theorem LX.nilc {H : AH} {cb : Nat} (h : Cur H cb) : LX (some cb) H H [] :=
  ⟨fun b => b < H.length ∧ b ≠ cb, fun i x h => by simp at h, fun i x h => by simp at h, fun i j x y _ h => by simp at h, Nat.le_refl _, fun _ _ _ => rfl, fun b hb h => ⟨hb, fun e => h (by rw [e])⟩, fun b hb => ⟨hb.1, by simpa using Ne.symm hb.2⟩, fun b hb => by cases hb; exact h, fun _ _ i x h => by simp at h⟩
/-- The heap turns, but for what is held or only read. -/
theorem LB.add {B : Nat → Prop} {c : Option Nat} {H0 H H' : AH} {L : List Ix} {x : Ix} (h : LB B c H0 H L) (hl : H.length ≤ H'.length) (hk : ∀ b, b < H.length → c ≠ some b → H'[b]? = H[b]?) (hc : ∀ cb, c = some cb → Cur H' cb) (hx : x.ok B H') (hb : ∀ b, x.bs b → H.length ≤ b) : LB B c H0 H' (x :: L) := by
  have same : ∀ (i : Nat) y, L[i]? = some y → y.ok B H' := fun i y hy => (h.ok i y hy).same (fun b hb => hk b ((h.ok i y hy).lt b hb) fun e => h.nc b e i y hy hb) (fun b hb => hk b (h.bl b hb).1 (h.bl b hb).2) fun b hb => hb
  refine ⟨?_, ?_, ?_, Nat.le_trans h.len hl, fun b hb hn => ?_, h.b0, fun b hb => ⟨Nat.lt_of_lt_of_le (h.bl b hb).1 hl, (h.bl b hb).2⟩, hc, fun cb e => ?_⟩
  · rintro (_ | i) y hy
    · cases hy; exact hx
    · exact same i y hy
  · rintro (_ | i) y hy b hb2
    · cases hy
      exact ⟨fun hB => by have := (h.bl b hB).1; have := hb b hb2; omega, Nat.le_trans h.len (hb b hb2)⟩
    · exact h.fr i y hy b hb2
  · rintro (_ | i) (_ | j) y z hne hy hz b h1 h2
    · exact hne rfl
    · cases hy; have := hb b h1; have := (h.ok j z hz).lt b h2; omega
    · cases hz; have := hb b h2; have := (h.ok i y hy).lt b h1; omega
    · exact h.dj i j y z (by omega) hy hz b h1 h2
  · rw [hk b (Nat.lt_of_lt_of_le hb h.len) hn, h.keep b hb hn]
  · rintro (_ | i) y hy h2
    · cases hy; have := hb cb h2; have := (h.cur cb e).lt; omega
    · exact h.nc cb e i y hy h2
theorem LB.tail {B : Nat → Prop} {c : Option Nat} {H0 H : AH} {L : List Ix} {x : Ix} (h : LB B c H0 H (x :: L)) : LB B c H0 H L :=
  ⟨fun i y hy => h.ok (i + 1) y hy, fun i y hy => h.fr (i + 1) y hy, fun i j y z hne hy hz => h.dj (i + 1) (j + 1) y z (by omega) hy hz, h.len, h.keep, h.b0, h.bl, h.cur, fun cb e i y hy => h.nc cb e (i + 1) y hy⟩
theorem LX.tail {c : Option Nat} {H0 H : AH} {L : List Ix} {x : Ix} (h : LX c H0 H (x :: L)) : LX c H0 H L := by
  obtain ⟨B, h⟩ := h; exact ⟨B, h.tail⟩
theorem LB.grow {B : Nat → Prop} {c : Option Nat} {H0 H H' : AH} {L : List Ix} (h : LB B c H0 H L) (hl : H.length ≤ H'.length) (hk : ∀ b, b < H.length → c ≠ some b → H'[b]? = H[b]?) (hc : ∀ cb, c = some cb → Cur H' cb) : LB B c H0 H' L :=
  (h.add (x := .own (.row (.slice none 0 0) [])) hl hk hc OwnRow.nil fun b hb => by simp [Ix.bs, It.bs, blkOf] at hb).tail
theorem LX.call {cb : Nat} {H0 H H' : AH} {L : List Ix} (h : LX (some cb) H0 H L) (hf : Frm cb H H') : LX (some cb) H0 H' L := by
  obtain ⟨B, h⟩ := h
  exact ⟨B, h.grow hf.len (fun b hb hn => hf.keep b hb (by simpa using Ne.symm hn)) (fun g e => by cases e; exact hf.cur)⟩
theorem LX.extd {c : Option Nat} {H0 H H' : AH} {L : List Ix} (h : LX c H0 H L) (hf : ∃ K, H' = H ++ K) : LX c H0 H' L := by
  obtain ⟨B, h⟩ := h
  obtain ⟨K, rfl⟩ := hf
  exact ⟨B, h.grow (by simp) (fun b hb _ => List.getElem?_append_left hb) (fun g e => (h.cur g e).mono)⟩
/-- One thing is turned. -/
theorem LB.upd {B : Nat → Prop} {c : Option Nat} {H0 H H' : AH} {L : List Ix} {x x' : Ix} (h : LB B c H0 H L) (i : Nat) (hi : L[i]? = some x) (hl : H.length ≤ H'.length) (hk : ∀ b, b < H.length → ¬ x.bs b → H'[b]? = H[b]?) (hx : x'.ok B H') (hb : ∀ b, x'.bs b → x.bs b ∨ H.length ≤ b) : LB B c H0 H' (L.set i x') := by
  have hil := (List.getElem?_eq_some_iff.1 hi).1
  have get : ∀ (j : Nat) y, (L.set i x')[j]? = some y → (j = i ∧ y = x') ∨ (j ≠ i ∧ L[j]? = some y) := fun j y hy => by
    rcases Nat.decEq i j with e | e
    · rw [List.getElem?_set_ne e] at hy; exact .inr ⟨Ne.symm e, hy⟩
    · subst e; rw [List.getElem?_set_self hil] at hy; cases hy; exact .inl ⟨rfl, rfl⟩
  have hB : ∀ b, B b → H'[b]? = H[b]? := fun b hb => hk b (h.bl b hb).1 fun e => (h.fr i x hi b e).1 hb
  refine ⟨fun j y hy => ?_, fun j y hy b hb2 => ?_, fun j k y z hne hy hz b e1 e2 => ?_, Nat.le_trans h.len hl, fun b hb2 hn => ?_, h.b0, fun b hb => ⟨Nat.lt_of_lt_of_le (h.bl b hb).1 hl, (h.bl b hb).2⟩, fun cb e => ?_, fun cb e j y hy h2 => ?_⟩
  · rcases get j y hy with ⟨rfl, rfl⟩ | ⟨hne, hy⟩
    · exact hx
    · exact (h.ok j y hy).same (fun b hb2 => hk b ((h.ok j y hy).lt b hb2) (h.dj j i y x hne hy hi b hb2)) hB fun b hb => hb
  · rcases get j y hy with ⟨rfl, rfl⟩ | ⟨hne, hy⟩
    · exact (hb b hb2).elim (h.fr j x hi b) fun h2 => ⟨fun hB2 => by have := (h.bl b hB2).1; omega, Nat.le_trans h.len h2⟩
    · exact h.fr j y hy b hb2
  · rcases get j y hy with ⟨rfl, rfl⟩ | ⟨hne1, hy'⟩
    · rcases get k z hz with ⟨rfl, rfl⟩ | ⟨hne2, hz⟩
      · exact hne rfl
      · exact (hb b e1).elim (fun e1 => h.dj j k x z hne hi hz b e1 e2) fun e1 => by have := (h.ok k z hz).lt b e2; omega
    · rcases get k z hz with ⟨rfl, rfl⟩ | ⟨hne2, hz⟩
      · exact (hb b e2).elim (fun e2 => h.dj j k y x hne hy' hi b e1 e2) fun e2 => by have := (h.ok j y hy').lt b e1; omega
      · exact h.dj j k y z hne hy' hz b e1 e2
  · rw [hk b (Nat.lt_of_lt_of_le hb2 h.len) fun e => by have := (h.fr i x hi b e).2; omega, h.keep b hb2 hn]
  · have h2 := h.cur cb e
    refine h2.same (hk cb h2.lt (h.nc cb e i x hi)) fun b cs hb2 => ?_
    rw [hk b (List.getElem?_eq_some_iff.1 hb2).1 fun e => ?_]
    · exact hb2
    · obtain ⟨cs', h3⟩ := (h.ok i x hi).ownb b e
      rw [hb2] at h3; cases h3
  · rcases get j y hy with ⟨rfl, rfl⟩ | ⟨hne1, hy'⟩
    · exact (hb cb h2).elim (h.nc cb e j x hi) fun h3 => by have := (h.cur cb e).lt; omega
    · exact h.nc cb e j y hy' h2
theorem LX.rd {c : Option Nat} {H0 H : AH} {L : List Ix} {o : Nat} {cs : List Value} (h : LX c H0 H L) (i : Nat) (hi : L[i]? = some (.own (.box o cs))) : rd H o = some cs ∧ wrt H o = some cs := by
  obtain ⟨B, h⟩ := h
  exact ⟨rd_own (h.ok i _ hi), wrt_own (h.ok i _ hi)⟩
theorem LX.own {c : Option Nat} {H0 H : AH} {L : List Ix} {v : Value} {l : List Int} (h : LX c H0 H L) (i : Nat) (hi : L[i]? = some (.own (.row v l))) : OwnRow H v l := by
  obtain ⟨B, h⟩ := h; exact h.ok i _ hi
theorem LX.int {c : Option Nat} {H0 H : AH} {L : List Ix} {v : Value} {l : List Int} (h : LX c H0 H L) (i : Nat) (hi : L[i]? = some (.own (.row v l))) : IntRow H v l := (h.own i hi).int
theorem LX.ri {c : Option Nat} {H0 H : AH} {L : List Ix} {v : Value} {l : List Int} (h : LX c H0 H L) (i : Nat) (hi : L[i]? = some (.fro v l)) : IntRow H v l := by
  obtain ⟨B, h⟩ := h; exact (h.ok i _ hi).1
theorem LX.ft {c : Option Nat} {H0 H : AH} {L : List Ix} {v : Value} {ks : List CK} {n : Nat} {xs : List Value} {V : List CV} (h : LX c H0 H L) (i : Nat) (hi : L[i]? = some (.ftab v ks n xs V)) : FRow H v ks n xs ∧ cvs H xs = V := by
  obtain ⟨B, h⟩ := h; exact ⟨(h.ok i _ hi).1.fr, (h.ok i _ hi).2⟩
theorem LX.tb {c : Option Nat} {H0 H : AH} {L : List Ix} {v : Value} {ks : List CK} {n : Nat} {xs : List Value} {V : List CV} (h : LX c H0 H L) (i : Nat) (hi : L[i]? = some (.tab v ks n xs V)) : FRow H v ks n xs ∧ cvs H xs = V := by
  obtain ⟨B, h⟩ := h; exact ⟨(h.ok i _ hi).1.frow, (h.ok i _ hi).2⟩
theorem LX.cur {H0 H : AH} {L : List Ix} {cb : Nat} (h : LX (some cb) H0 H L) : Cur H cb := by
  obtain ⟨B, h⟩ := h; exact h.cur cb rfl
theorem LX.nc {H0 H : AH} {L : List Ix} {cb : Nat} {v : Value} {l : List Int} (h : LX (some cb) H0 H L) (i : Nat) (hi : L[i]? = some (.own (.row v l))) : blkOf v ≠ some cb := by
  obtain ⟨B, h⟩ := h
  exact h.nc cb rfl i _ hi
theorem LX.box {c : Option Nat} {H0 H : AH} {L : List Ix} (h : LX c H0 H L) (cs : List Value) : LX c H0 (H ++ [⟨cs, .own⟩]) (.own (.box H.length cs) :: L) := by
  obtain ⟨B, h⟩ := h
  exact ⟨B, h.add (by simp) (fun b hb _ => List.getElem?_append_left hb) (fun g e => (h.cur g e).mono) (by show (H ++ [⟨cs, .own⟩])[H.length]? = _; rw [gt0]; rfl) fun b hb => by cases hb; exact Nat.le_refl _⟩
theorem LX.nrow {c : Option Nat} {H0 H H' : AH} {L : List Ix} {v : Value} {l : List Int} (h : LX c H0 H L) (hv : DR H H' v l) (hf : ∃ K, H' = H ++ K) : LX c H0 H' (.own (.row v l) :: L) := by
  obtain ⟨B, h⟩ := h
  obtain ⟨K, rfl⟩ := hf
  exact ⟨B, h.add (by simp) (fun b hb _ => List.getElem?_append_left hb) (fun g e => (h.cur g e).mono) hv.own hv.fr⟩
theorem LX.nil0 {c : Option Nat} {H0 H : AH} {L : List Ix} (h : LX c H0 H L) : LX c H0 H (.own (.row (.slice none 0 0) []) :: L) :=
  h.nrow ⟨OwnRow.nil, fun b hb => by simp [blkOf] at hb⟩ ext_refl
theorem LX.ntab {c : Option Nat} {H0 H : AH} {L : List Ix} (h : LX c H0 H L) (ks : List CK) : LX c H0 H (.tab (.slice none 0 0) ks 0 [] [] :: L) := by
  obtain ⟨B, h⟩ := h
  exact ⟨B, h.add (Nat.le_refl _) (fun b hb _ => rfl) h.cur ⟨⟨by simp, .inl ⟨rfl, rfl⟩, fun i c k y hi => by omega, fun y hy => by simp at hy⟩, rfl⟩ fun b hb => by simp [Ix.bs, blkOf] at hb⟩
theorem LX.set {c : Option Nat} {H0 H : AH} {L : List Ix} {o : Nat} {cs : List Value} (h : LX c H0 H L) (i : Nat) (hi : L[i]? = some (.own (.box o cs))) (cs' : List Value) : LX c H0 (H.set o ⟨cs', .own⟩) (L.set i (.own (.box o cs'))) := by
  obtain ⟨B, h⟩ := h
  exact ⟨B, h.upd i hi (by simp) (fun b hb hn => List.getElem?_set_ne (fun e => hn e.symm)) (set_at (h.ok i _ hi)) fun b hb => .inl hb⟩
theorem LX.push {c : Option Nat} {H0 H H' : AH} {L : List Ix} {v v' : Value} {l m : List Int} (h : LX c H0 H L) (i : Nat) (hi : L[i]? = some (.own (.row v l))) (ho : OwnRow H' v' m) (ha : App H v H' v') : LX c H0 H' (L.set i (.own (.row v' m))) := by
  obtain ⟨B, h⟩ := h
  exact ⟨B, h.upd i hi ha.len ha.keep ho ha.new⟩
/-- What was held is only read from here on. -/
theorem LB.fz {B B' : Nat → Prop} {c : Option Nat} {H0 H : AH} {L : List Ix} {x x' : Ix} (h : LB B c H0 H L) (i : Nat) (hi : L[i]? = some x) (hB : ∀ b, B' b ↔ (B b ∨ x.bs b)) (hx : x'.ok B' H) (hb : ∀ b, ¬ x'.bs b) : LB B' c H0 H (L.set i x') := by
  have hil := (List.getElem?_eq_some_iff.1 hi).1
  have get : ∀ (j : Nat) y, (L.set i x')[j]? = some y → (j = i ∧ y = x') ∨ (j ≠ i ∧ L[j]? = some y) := fun j y hy => by
    rcases Nat.decEq i j with e | e
    · rw [List.getElem?_set_ne e] at hy; exact .inr ⟨Ne.symm e, hy⟩
    · subst e; rw [List.getElem?_set_self hil] at hy; cases hy; exact .inl ⟨rfl, rfl⟩
  refine ⟨fun j y hy => ?_, fun j y hy b hb2 => ?_, fun j k y z hne hy hz b e1 e2 => ?_, h.len, h.keep, fun b hb hn => (hB b).2 (.inl (h.b0 b hb hn)), fun b hb => ?_, h.cur, fun cb e j y hy h2 => ?_⟩
  · rcases get j y hy with ⟨rfl, rfl⟩ | ⟨hne, hy⟩
    · exact hx
    · exact (h.ok j y hy).same (fun b _ => rfl) (fun b _ => rfl) fun b hb => (hB b).2 (.inl hb)
  · rcases get j y hy with ⟨rfl, rfl⟩ | ⟨hne, hy⟩
    · exact (hb b hb2).elim
    · refine ⟨fun e => ?_, (h.fr j y hy b hb2).2⟩
      rcases (hB b).1 e with e | e
      · exact (h.fr j y hy b hb2).1 e
      · exact h.dj j i y x hne hy hi b hb2 e
  · rcases get j y hy with ⟨rfl, rfl⟩ | ⟨hne1, hy'⟩
    · exact (hb b e1).elim
    · rcases get k z hz with ⟨rfl, rfl⟩ | ⟨hne2, hz⟩
      · exact (hb b e2).elim
      · exact h.dj j k y z hne hy' hz b e1 e2
  · rcases (hB b).1 hb with e | e
    · exact h.bl b e
    · exact ⟨(h.ok i x hi).lt b e, fun e2 => h.nc b e2 i x hi e⟩
  · rcases get j y hy with ⟨rfl, rfl⟩ | ⟨hne1, hy'⟩
    · exact (hb cb h2).elim
    · exact h.nc cb e j y hy' h2
theorem LX.fzr {c : Option Nat} {H0 H : AH} {L : List Ix} {v : Value} {l : List Int} (h : LX c H0 H L) (i : Nat) (hi : L[i]? = some (.own (.row v l))) : LX c H0 H (L.set i (.fro v l)) := by
  obtain ⟨B, h⟩ := h
  exact ⟨fun b => B b ∨ blkOf v = some b, h.fz i hi (fun b => Iff.rfl) ⟨OwnRow.int (h.ok i _ hi), fun b hb => .inr hb⟩ fun b hb => hb⟩
theorem LX.fzc {c : Option Nat} {H0 H : AH} {L : List Ix} {v : Value} {ks : List CK} {n : Nat} {xs : List Value} {V : List CV} (h : LX c H0 H L) (i : Nat) (hi : L[i]? = some (.own (.cmp (.row v ks n xs) V))) : LX c H0 H (L.set i (.ftab v ks n xs V)) := by
  obtain ⟨B, h⟩ := h
  obtain ⟨h1, h2⟩ := h.ok i _ hi
  exact ⟨fun b => B b ∨ (Comp.row v ks n xs).bs b, h.fz i hi (fun b => Iff.rfl) ⟨⟨OT.frow h1, fun b hb => .inr hb⟩, h2⟩ fun b hb => hb⟩
/-- What a callee leaves is held from here on. -/
theorem LX.join {c : Option Nat} {H0 H H' : AH} {L : List Ix} {L' : List It} (h : LX c H0 H L) (g : LD none H H' L') : LX c H0 H' (L'.map .own ++ L) := by
  obtain ⟨B, h⟩ := h
  obtain ⟨K, hK⟩ := g.ext
  have h1 : LB B c H0 H' L := h.grow g.len (fun b hb _ => g.keep b hb (by simp)) fun cb e => by rw [hK]; exact (h.cur cb e).mono
  have get : ∀ (i : Nat) x, (L'.map Ix.own ++ L)[i]? = some x → (∃ y, x = .own y ∧ L'[i]? = some y) ∨ (L'.length ≤ i ∧ L[i - L'.length]? = some x) := fun i x hx => by
    rcases Nat.lt_or_ge i L'.length with e | e
    · rw [List.getElem?_append_left (by simpa using e), List.getElem?_map, Option.map_eq_some_iff] at hx
      obtain ⟨y, hy, rfl⟩ := hx
      exact .inl ⟨y, rfl, hy⟩
    · rw [List.getElem?_append_right (by simpa using e), List.length_map] at hx; exact .inr ⟨e, hx⟩
  refine ⟨B, fun i x hx => ?_, fun i x hx b hb => ?_, fun i j x y hne hx hy b e1 e2 => ?_, h1.len, h1.keep, h1.b0, h1.bl, h1.cur, fun cb e i x hx hb => ?_⟩
  · rcases get i x hx with ⟨y, rfl, gx⟩ | ⟨_, hx⟩
    · exact g.ok _ y gx
    · exact h1.ok _ x hx
  · rcases get i x hx with ⟨y, rfl, gx⟩ | ⟨_, hx⟩
    · have := g.fr _ y gx b hb
      exact ⟨fun e => by have := (h.bl b e).1; omega, Nat.le_trans h.len this⟩
    · exact h1.fr _ x hx b hb
  · rcases get i x hx with ⟨x', rfl, gx⟩ | ⟨a1, hx⟩ <;> rcases get j y hy with ⟨y', rfl, gy⟩ | ⟨a2, hy⟩
    · exact g.dj i j x' y' hne gx gy b e1 e2
    · have := g.fr _ x' gx b e1; have := (h.ok _ y hy).lt b e2; omega
    · have := g.fr _ y' gy b e2; have := (h.ok _ x hx).lt b e1; omega
    · exact h1.dj _ _ x y (by omega) hx hy b e1 e2
  · rcases get i x hx with ⟨y, rfl, gx⟩ | ⟨_, hx⟩
    · have := g.fr _ y gx cb hb; have := (h.cur cb e).lt; omega
    · exact h1.nc cb e _ x hx hb
/-- What is handed back. -/
theorem LX.give {c : Option Nat} {H0 H : AH} {L : List Ix} (h : LX c H0 H L) (is : List Nat) (hn : is.Nodup) (L' : List It) (hL : is.map (fun i => L[i]?) = L'.map (fun x => some (.own x))) : LD c H0 H L' := by
  obtain ⟨B, h⟩ := h
  have get : ∀ (j : Nat) x, L'[j]? = some x → ∃ i, is[j]? = some i ∧ L[i]? = some (.own x) := fun j x hx => by
    have := congrArg (fun l => l[j]?) hL
    simp only [List.getElem?_map, hx, Option.map_some, Option.map_eq_some_iff] at this
    exact this
  refine ⟨fun j x hx => ?_, fun j x hx b hb => ?_, fun j k x y hne hx hy b e1 e2 => ?_, h.len, h.keep, h.cur, fun cb e j x hx hb => ?_⟩
  · obtain ⟨i, _, h1⟩ := get j x hx
    exact h.ok i _ h1
  · obtain ⟨i, _, h1⟩ := get j x hx
    exact (h.fr i _ h1 b hb).2
  · obtain ⟨i, hi, h1⟩ := get j x hx
    obtain ⟨i', hi', h1'⟩ := get k y hy
    refine h.dj i i' _ _ ?_ h1 h1' b e1 e2
    rintro rfl
    obtain ⟨l1, l2⟩ := List.getElem?_eq_some_iff.1 hi
    obtain ⟨l3, l4⟩ := List.getElem?_eq_some_iff.1 hi'
    have hp := List.pairwise_iff_getElem.1 hn
    rcases Nat.lt_or_gt_of_ne hne with e | e
    · exact hp _ _ l1 l3 e (l2.trans l4.symm)
    · exact hp _ _ l3 l1 e (l4.trans l2.symm)
  · obtain ⟨i, _, h1⟩ := get j x hx
    exact h.nc cb e i _ h1 hb
theorem LX.pick {c : Option Nat} {H0 H : AH} {L : List Ix} (h : LX c H0 H L) (is : List Nat) (L' : List Ix) (hL : is.map (fun i => L[i]?) = L'.map some) (hn : is.Nodup) : LX c H0 H L' := by
  obtain ⟨B, h⟩ := h
  have get : ∀ (j : Nat) x, L'[j]? = some x → ∃ i, is[j]? = some i ∧ L[i]? = some x := fun j x hx => by
    have := congrArg (fun l => l[j]?) hL
    simp only [List.getElem?_map, hx, Option.map_some, Option.map_eq_some_iff] at this
    exact this
  refine ⟨B, fun j x hx => ?_, fun j x hx b hb => ?_, fun j k x y hne hx hy b e1 e2 => ?_, h.len, h.keep, h.b0, h.bl, h.cur, fun cb e j x hx hb => ?_⟩
  · obtain ⟨i, _, h1⟩ := get j x hx
    exact h.ok i _ h1
  · obtain ⟨i, _, h1⟩ := get j x hx
    exact h.fr i _ h1 b hb
  · obtain ⟨i, hi, h1⟩ := get j x hx
    obtain ⟨i', hi', h1'⟩ := get k y hy
    refine h.dj i i' _ _ ?_ h1 h1' b e1 e2
    rintro rfl
    obtain ⟨l1, l2⟩ := List.getElem?_eq_some_iff.1 hi
    obtain ⟨l3, l4⟩ := List.getElem?_eq_some_iff.1 hi'
    have hp := List.pairwise_iff_getElem.1 hn
    rcases Nat.lt_or_gt_of_ne hne with e | e
    · exact hp _ _ l1 l3 e (l2.trans l4.symm)
    · exact hp _ _ l3 l1 e (l4.trans l2.symm)
  · obtain ⟨i, _, h1⟩ := get j x hx
    exact h.nc cb e i _ h1 hb
theorem LX.out {H0 H : AH} {L : List Ix} {cb : Nat} (h : LX (some cb) H0 H L) (hb : H0.length ≤ cb) : LX none H0 H L := by
  obtain ⟨B, h⟩ := h
  exact ⟨B, h.ok, h.fr, h.dj, h.len, fun b hb2 _ => h.keep b hb2 (by simp; omega), fun b hb2 _ => h.b0 b hb2 (by simp; omega), fun b hb => ⟨(h.bl b hb).1, by simp⟩, fun _ e => by simp at e, fun _ e => by simp at e⟩
theorem LX.cursor {H0 H H' : AH} {L : List Ix} {cb : Nat} (h : LX none H0 H L) (hf : ∃ K, H' = H ++ K) (hc : Cur H' cb) (hb : H.length ≤ cb) : LX (some cb) H0 H' L := by
  obtain ⟨B, h1⟩ := h.extd hf
  obtain ⟨B2, h⟩ := h
  have hlen := ext_len hf
  obtain ⟨K, rfl⟩ := hf
  have h3 : LB B2 none H0 (H ++ K) L := h.grow (by simp) (fun b hb _ => List.getElem?_append_left hb) (fun g e => (h.cur g e).mono)
  refine ⟨B2, h3.ok, h3.fr, h3.dj, h3.len, fun b hb _ => h3.keep b hb (by simp), fun b hb _ => h3.b0 b hb (by simp), fun b hb2 => ⟨(h3.bl b hb2).1, fun e => ?_⟩, fun g e => by cases e; exact hc, fun g e i x hx h2 => ?_⟩
  · cases e
    have := (h.bl _ hb2).1; omega
  · cases e
    have := (h.ok i x hx).lt _ h2; omega
theorem LX.da {cb : Nat} {H0 H H' : AH} {L : List Ix} {p q : Value} {sh dt : List Int} (h : LX (some cb) H0 H L) (ha : DA H H' p q sh dt) (hf : Frm cb H H') : LX (some cb) H0 H' (.own (.row p sh) :: .own (.row q dt) :: L) := by
  obtain ⟨B, h⟩ := h
  have h2 : LB B (some cb) H0 H' (.own (.row q dt) :: L) := h.add hf.len (fun b hb hn => hf.keep b hb (by simpa using Ne.symm hn)) (fun g e => by cases e; exact hf.cur) ha.dt.own ha.dt.fr
  have h1 : LB B (some cb) H0 H' (.own (.row p sh) :: L) := h.add hf.len (fun b hb hn => hf.keep b hb (by simpa using Ne.symm hn)) (fun g e => by cases e; exact hf.cur) ha.sh.own ha.sh.fr
  refine ⟨B, ?_, ?_, ?_, h1.len, h1.keep, h1.b0, h1.bl, h1.cur, fun cb e => ?_⟩
  · rintro (_ | i) y hy
    · cases hy; exact ha.sh.own
    · exact h2.ok i y hy
  · rintro (_ | i) y hy b hb
    · cases hy; exact h1.fr 0 _ rfl b hb
    · exact h2.fr i y hy b hb
  · rintro (_ | _ | i) (_ | _ | j) y z hne hy hz b e1 e2
    · exact hne rfl
    · cases hy; cases hz; exact ha.dj b e1 e2
    · exact h1.dj 0 (j + 1) y z (by omega) hy hz b e1 e2
    · cases hy; cases hz; exact ha.dj b e2 e1
    · exact hne rfl
    · exact h2.dj 0 (j + 1) y z (by omega) hy hz b e1 e2
    · exact h1.dj (i + 1) 0 y z (by omega) hy hz b e1 e2
    · exact h2.dj (i + 1) 0 y z (by omega) hy hz b e1 e2
    · exact h1.dj (i + 1) (j + 1) y z (by omega) hy hz b e1 e2
  · rintro (_ | i) y hy
    · cases hy; exact h1.nc cb e 0 _ rfl
    · exact h2.nc cb e i y hy
theorem LX.ar {c : Option Nat} {H0 H : AH} {L : List Ix} {p q : Value} {sh dt : List Int} (h : LX c H0 H L) (i j : Nat) (hi : L[i]? = some (.own (.row p sh))) (hj : L[j]? = some (.own (.row q dt))) (l1 : sh.length ≤ 1048576) (l2 : dt.length ≤ 1048576) : AR H p q sh dt := ⟨h.int i hi, h.int j hj, l1, l2⟩
theorem LX.arf {c : Option Nat} {H0 H : AH} {L : List Ix} {p q : Value} {sh dt : List Int} (h : LX c H0 H L) (i j : Nat) (hi : L[i]? = some (.fro p sh)) (hj : L[j]? = some (.fro q dt)) (l1 : sh.length ≤ 1048576) (l2 : dt.length ≤ 1048576) : AR H p q sh dt := ⟨h.ri i hi, h.ri j hj, l1, l2⟩
theorem LX.ans {H H' : AH} {L : List Ix} {p q : Value} {c : Int} {sh dt : List Int} {R : (List Int × List Int) × Int} (h : LX none H H' L) (i j : Nat) (hij : i ≠ j) (hi : L[i]? = some (.own (.row p sh))) (hj : L[j]? = some (.own (.row q dt))) (hR : R = ((sh, dt), c)) : Ans1 H H' (.tuple #[.agg #[p, q], .int .i64 c]) R := by
  subst hR
  exact ⟨_, _, rfl, h.give [i, j] (by simp [hij]) [.row p sh, .row q dt] (by simp [hi, hj])⟩
theorem LX.ansA {H H' : AH} {L : List Ix} {p q : Value} {sh dt : List Int} {R : List Int × List Int} (h : LX none H H' L) (i j : Nat) (hij : i ≠ j) (hi : L[i]? = some (.own (.row p sh))) (hj : L[j]? = some (.own (.row q dt))) (hR : R = (sh, dt)) : AnsA H H' (.agg #[p, q]) R := by
  subst hR
  exact ⟨_, _, rfl, h.give [i, j] (by simp [hij]) [.row p sh, .row q dt] (by simp [hi, hj])⟩
theorem LX.err {H H' : AH} {L : List Ix} {c : Int} {R : (List Int × List Int) × Int} (h : LX none H H' L) (hR : R = (([], []), c)) : Ans1 H H' (.tuple #[.agg #[.slice none 0 0, .slice none 0 0], .int .i64 c]) R :=
  (h.nil0.nil0).ans 0 1 (by decide) rfl rfl hR
/-- A row and a code. -/
def AnsR (H H' : AH) (r : Value) (R : List Int × Int) : Prop := ∃ p, r = .tuple #[p, .int .i64 R.2] ∧ LD none H H' [.row p R.1]
theorem LX.ansR {H H' : AH} {L : List Ix} {p : Value} {c : Int} {l : List Int} {R : List Int × Int} (h : LX none H H' L) (i : Nat) (hi : L[i]? = some (.own (.row p l))) (hR : R = (l, c)) : AnsR H H' (.tuple #[p, .int .i64 c]) R := by
  subst hR
  exact ⟨_, rfl, h.give [i] (by simp) [.row p l] (by simp [hi])⟩
theorem cast0 : ((0 : Nat) : Int) = 0 := rfl
theorem st_box {c : Option Nat} {H0 H : AH} {L : List Ix} {Φ : Value → AH → Prop} {cs : List Value} (q : LX c H0 H L) (k : ∀ H', LX c H0 H' (.own (.box H.length cs) :: L) → Φ (.pointer (some ⟨H.length, 0, none⟩)) H') : oM (some (cs, none)) H Φ := k _ (q.box cs)
theorem st_lit {c : Option Nat} {H0 H : AH} {L : List Ix} {Φ : Value → AH → Prop} {cs : List Value} {n : Nat} (l : List Int) (he : cs = ints l) (hn : n = l.length) (q : LX c H0 H L) (k : ∀ H', LX c H0 H' (.own (.row (.slice (some ⟨H.length, 0, none⟩) n 1) l) :: L) → Φ (.slice (some ⟨H.length, 0, none⟩) n 1) H') : oM (some (cs, some (n, 1))) H Φ :=
  k _ (q.nrow (DR.lit l (Nat.le_refl _) he hn) ⟨_, rfl⟩)
theorem st_cells {c : Option Nat} {H0 H : AH} {L : List Ix} {Φ : Value → AH → Prop} {cs : List Value} {n s : Nat} (q : LX c H0 H L) (k : ∀ H', LX c H0 H' (.own (.box H.length cs) :: L) → Φ (.slice (some ⟨H.length, 0, none⟩) n s) H') : oM (some (cs, some (n, s))) H Φ := k _ (q.box cs)
theorem st_set {c : Option Nat} {H0 H : AH} {L : List Ix} {Φ : Value → AH → Prop} {b : Nat} {cs cs' : List Value} (q : LX c H0 H L) (i : Nat) (hi : L[i]? = some (.own (.box b cs))) (k : ∀ H', LX c H0 H' (L.set i (.own (.box b cs'))) → Φ undef H') : oS (some (H.set b ⟨cs', .own⟩)) Φ := k _ (q.set i hi cs')
theorem st_app {c : Option Nat} {H0 H : AH} {L : List Ix} {Φ : Value → AH → Prop} {v w : Value} {l m : List Int} (q : LX c H0 H L) (i : Nat) (hi : L[i]? = some (.own (.row v l))) (hw : IntRow H w m) (hl : l.length + m.length ≤ 1073741824)
    (k : ∀ a c' H', LX c H0 H' (L.set i (.own (.row (.slice a (l.length + m.length) c') (l ++ m)))) → Φ (.slice a (l.length + m.length) c') H') : oA (app 1 v w H) Φ :=
  oA_own (q.own i hi) hw hl fun a c' H' o x => k a c' H' (q.push i hi o x)
def Same : List Nat → Tm → Tm → Prop
  | [], _, _ => True
  | k :: ks, a, b => a k = b k ∧ Same ks a b
/-- A loop over a state; what is not turned in it stays. -/
theorem rW_loopQ {P : Program} {cd : KC} {s : List Fr} {Q : Post} {σ : Type} {tm : Tm} {H H0 : AH} {c : Option Nat} {L : List Ix} (q : LX c H0 H L) (live : List Nat) (A : σ → Tm → Prop) (J : σ → List Ix → List Ix) (μ : σ → Nat) (x : σ) (hA : A x tm) (hJ : J x L = L)
    (hs : ∀ x tm' H', Same live tm' tm → A x tm' → LX c H0 H' (J x L) → rW P cd [] (lpK P (fun tm'' H'' => ∃ y, μ y < μ x ∧ Same live tm'' tm' ∧ A y tm'' ∧ LX c H0 H'' (J y L)) s Q) tm' H') : rW P (.loop cd) s Q tm H := by
  have str : ∀ {a b d : Tm}, ∀ ks, Same ks a b → Same ks b d → Same ks a d := by
    intro a b d ks
    induction ks with
    | nil => exact fun _ _ => trivial
    | cons k ks ih => exact fun h1 h2 => ⟨h1.1.trans h2.1, ih h1.2 h2.2⟩
  have sr : ∀ {a : Tm}, ∀ ks, Same ks a a := by
    intro a ks
    induction ks with
    | nil => trivial
    | cons k ks ih => exact ⟨rfl, ih⟩
  refine rW_loop (σ := σ) (fun x tm' H' => Same live tm' tm ∧ A x tm' ∧ LX c H0 H' (J x L)) μ x ⟨sr live, hA, by rw [hJ]; exact q⟩ ?_
  rintro x tm' H' ⟨h1, h2, h3⟩
  refine kW_monoQ (fun ex tm'' H'' hh => ?_) (hs x tm' H' h1 h2 h3)
  cases ex with
  | normal =>
    obtain ⟨y, e1, e2, e3, e4⟩ := hh
    exact ⟨y, e1, str live e2 h1, e3, e4⟩
  | _ => exact hh
/-- A loop that leaves the heap as it is. -/
theorem rW_loopH {P : Program} {cd : KC} {s : List Fr} {Q : Post} {σ : Type} {tm : Tm} {H : AH} (live : List Nat) (A : σ → Tm → Prop) (μ : σ → Nat) (x : σ) (hA : A x tm)
    (hs : ∀ x tm', Same live tm' tm → A x tm' → rW P cd [] (lpK P (fun tm'' H'' => ∃ y, μ y < μ x ∧ Same live tm'' tm' ∧ A y tm'' ∧ H'' = H) s Q) tm' H) : rW P (.loop cd) s Q tm H := by
  have str : ∀ {a b d : Tm}, ∀ ks, Same ks a b → Same ks b d → Same ks a d := by
    intro a b d ks
    induction ks with
    | nil => exact fun _ _ => trivial
    | cons k ks ih => exact fun h1 h2 => ⟨h1.1.trans h2.1, ih h1.2 h2.2⟩
  have sr : ∀ {a : Tm}, ∀ ks, Same ks a a := by
    intro a ks
    induction ks with
    | nil => trivial
    | cons k ks ih => exact ⟨rfl, ih⟩
  refine rW_loop (σ := σ) (fun x tm' H' => Same live tm' tm ∧ A x tm' ∧ H' = H) μ x ⟨sr live, hA, rfl⟩ ?_
  rintro x tm' H' ⟨h1, h2, rfl⟩
  refine kW_monoQ (fun ex tm'' H'' hh => ?_) (hs x tm' h1 h2)
  cases ex with
  | normal =>
    obtain ⟨y, e1, e2, e3, e4⟩ := hh
    exact ⟨y, e1, str live e2 h1, e3, e4⟩
  | _ => exact hh

theorem rpBytes {P : Program} {H : AH} {t e : TypeId} {v : Value} (h : RpV P H t v) (hu : P.underlying t = some (.slice e)) (he : P.underlying e = some (.int .u8)) (hc : P.cellsOf e = 1) : ∃ a n c, v = .slice a n c ∧ BRow H a n c := by
  obtain ⟨k, vs, h, rfl⟩ := h
  rcases h.slice hu with rfl | ⟨b, n, cs, rfl, h2, h3, h4, k, h5⟩
  · exact ⟨none, 0, 0, by simp [mkV, hu], fun h => by omega⟩
  · rw [hc] at h3 h5
    refine ⟨_, n, 1, by simp [mkV, hu, hc], fun _ => ⟨b, 0, cs, rfl, rfl, h2, fun j hj => ?_⟩⟩
    obtain ⟨m, h6, h7⟩ := (h5 j hj).int he
    have h8 : cs[j]? = some (.int .u8 m) := by
      have := congrArg (fun l : List Value => l[0]?) h6
      simp only [List.getElem?_take_of_lt Nat.zero_lt_one, List.getElem?_drop, Nat.mul_one, Nat.add_zero, List.getElem?_cons_zero] at this
      exact this
    refine ⟨m, by rw [Nat.zero_add]; exact h8, ?_⟩
    have := h7
    simp [Lit.wf] at this
    have e1 : IntKind.u8.min = 0 := rfl
    have e2 : IntKind.u8.max = 255 := rfl
    omega
theorem sameInts_ok {H : AH} {v w : Value} {l m : List Int} (hv : IntRow H v l) (hw : IntRow H w m) (hl : l.length < 9223372036854775807) : CallsA Try.prog 29 #[v, w] H fun r H' => r = .bool (l == m) ∧ H' = H := by
  obtain ⟨a, c, rfl, gv⟩ := hv.op
  obtain ⟨a', c', rfl, gw⟩ := hw.op
  refine w29 ?_
  unfold k29
  simp -implicitDefEqProofs only [kz, kk0, kk1, kk2, kk3, ↓two_true, ↓two_false, oS_some, oM_some, mkv, aggAt, Nat.reduceLeDiff, Nat.reduceSub, Nat.reduceMul, implies_true, Nat.reduceEqDiff, reduceIte, Nat.reduceAdd, Nat.reduceBEq, reduceCtorEq, ix22, ld3, ln22]
  refine two_intro (fun h => ?_) (fun h => ?_)
  · have : (l == m) = false := by
      rw [beq_eq_false_iff_ne]
      rintro rfl
      simp at h
    rw [this]
  · have hlen : l.length = m.length := by simp at h; omega
    refine rW_loop (σ := Nat) (fun i tm H' => tm 0 = .slice a l.length c ∧ tm 1 = .slice a' m.length c' ∧ tm 5 = .int .i64 i ∧ H' = H ∧ i ≤ l.length ∧ ∀ j, j < i → l[j]? = m[j]?) (fun i => l.length - i) 0 ?_ ?_
    · simp -implicitDefEqProofs [kk0, kk1, kk2, kk3, rW_block, ↓two_true, ↓two_false, rW_cond, rO_guard, oS_some, oM_some, mkv, aggAt, Nat.reduceLeDiff, Nat.reduceSub, Nat.reduceMul, cond_true, cond_false, Option.bind_some, List.length_append, List.length_cons, List.length_nil, List.append_assoc, List.cons_append, List.nil_append, List.set_cons_zero, List.set_cons_succ, List.size_toArray, List.all_cons, List.all_nil, List.drop_zero, List.drop_succ_cons, List.take_succ_cons, List.take_zero, List.mem_cons, Prod.mk.injEq, List.not_mem_nil, implies_true, List.getElem?_toArray, List.getElem?_cons_zero, List.getElem?_cons_succ, List.getElem?_nil, Option.getD_some, Option.getD_none, Nat.reduceEqDiff, reduceIte, Nat.reduceAdd, List.map_toArray, List.map_cons, List.map_nil, Bool.false_eq_true, Nat.reduceBEq, Option.map_some, Option.map_none, reduceCtorEq, ix22, ld3, ln22]
    · rintro i tm H' ⟨h0, h1, h5, rfl, hi, hn⟩
      simp -implicitDefEqProofs only [kz, kk0, kk1, kk2, kk3, ↓two_true, ↓two_false, oS_some, oM_some, mkv, aggAt, Nat.reduceLeDiff, Nat.reduceSub, Nat.reduceMul, implies_true, Nat.reduceEqDiff, reduceIte, Nat.reduceAdd, Nat.reduceBEq, reduceCtorEq, ix22, ld3, ln22, h0, h1, h5]
      refine two_intro (fun hc => ?_) (fun hc => ?_)
      · have hc' : i < l.length := by simpa using hc
        have hc2 : i < m.length := by omega
        obtain ⟨b, o, cs, rfl, rfl, hrd, _, hcell⟩ := gv (by omega)
        obtain ⟨b', o', cs', rfl, rfl, hrd', _, hcell'⟩ := gw (by omega)
        simp -implicitDefEqProofs only [kz, kk0, kk1, kk2, kk3, ↓two_true, ↓two_false, oS_some, oM_some, mkv, aggAt, Nat.reduceLeDiff, Nat.reduceSub, Nat.reduceMul, implies_true, Nat.reduceEqDiff, reduceIte, Nat.reduceAdd, Nat.reduceBEq, reduceCtorEq, ix22, ld3, ln22, h0, h1, h5, Int.toNat_natCast, Nat.mul_one, hrd, hrd', hcell i hc', hcell' i hc2, IntWalk.i64_in (↑i + 1) (by omega)]
        refine ⟨⟨by omega, by omega⟩, ⟨by omega, by omega⟩, two_intro (fun h => ?_) (fun h => ?_)⟩
        · have : (l == m) = false := by
            rw [beq_eq_false_iff_ne]
            rintro rfl
            simp at h
          rw [this]
        · refine ⟨i + 1, by omega, by simp, hc', fun j hj => ?_⟩
          rcases Nat.lt_or_ge j i with h1 | h1
          · exact hn j h1
          · have : j = i := by omega
            subst this
            simpa [hc', hc2] using h
      · have hc' : ¬ i < l.length := by simpa using hc
        have : (l == m) = true := by
          rw [beq_iff_eq]
          refine List.ext_getElem? fun j => ?_
          rcases Nat.lt_or_ge j i with h1 | h1
          · exact hn j h1
          · rw [List.getElem?_eq_none (by omega), List.getElem?_eq_none (by omega)]
        rw [this]
/-- The rows of an array that is right, of rank 1 and above. -/
def rowsR : List Int → List Int → List (List Int × List Int)
  | [], _ => []
  | x :: tl, da => (List.range x.toNat).map fun i => (tl, (da.drop (i * (sizeI tl).toNat)).take (sizeI tl).toNat)
/-- What Rows answers. -/
def rowsA (sa da : List Int) : List (List Int × List Int) := if arrOk sa da then rowsR sa da else []
def rowsV (rs : List (List Int × List Int)) : List CV := rs.flatMap fun r => [.r r.1, .r r.2]
theorem rowsV_len {rs : List (List Int × List Int)} : (rowsV rs).length = rs.length * 2 := by
  induction rs with
  | nil => rfl
  | cons r rs ih => simp only [rowsV, List.flatMap_cons, List.length_append, List.length_cons, List.length_nil] at ih ⊢; omega
theorem rowsV_snoc {rs : List (List Int × List Int)} {r : List Int × List Int} : rowsV (rs ++ [r]) = rowsV rs ++ [.r r.1, .r r.2] := by simp [rowsV]
theorem rowsV_get : ∀ {rs : List (List Int × List Int)} {i : Nat} (h : i < rs.length), (rowsV rs)[i * 2]? = some (.r rs[i].1) ∧ (rowsV rs)[i * 2 + 1]? = some (.r rs[i].2)
  | r :: rs, 0, _ => by simp [rowsV]
  | r :: rs, i + 1, h => by
    have h' : i < rs.length := by simpa using h
    obtain ⟨h1, h2⟩ := rowsV_get h'
    have e : rowsV (r :: rs) = .r r.1 :: .r r.2 :: rowsV rs := rfl
    refine ⟨?_, ?_⟩
    · rw [e, show (i + 1) * 2 = i * 2 + 1 + 1 by omega, List.getElem?_cons_succ, List.getElem?_cons_succ, h1]; rfl
    · rw [e, show (i + 1) * 2 + 1 = i * 2 + 1 + 1 + 1 by omega, List.getElem?_cons_succ, List.getElem?_cons_succ, h2]; rfl
/-- A row of arrays that may be read. -/
def RowsA (H : AH) (v : Value) (rs : List (List Int × List Int)) : Prop :=
  ∃ a c, v = .slice a rs.length c ∧ (0 < rs.length → ∃ b o cs, a = some ⟨b, o, none⟩ ∧ c = 2 ∧ rd H b = some cs ∧
    ∀ i (hi : i < rs.length), ∃ p q, cs[o + i * 2]? = some p ∧ cs[o + i * 2 + 1]? = some q ∧ IntRow H p rs[i].1 ∧ IntRow H q rs[i].2)
theorem RowsA.ext {H H' : AH} {v : Value} {rs : List (List Int × List Int)} (h : RowsA H v rs) (he : ∃ K, H' = H ++ K) : RowsA H' v rs := by
  obtain ⟨a, c, e, g⟩ := h
  refine ⟨a, c, e, fun h0 => ?_⟩
  obtain ⟨b, o, cs, e1, e2, h1, h2⟩ := g h0
  refine ⟨b, o, cs, e1, e2, rd_ext h1 he, fun i hi => ?_⟩
  obtain ⟨p, q, g1, g2, g3, g4⟩ := h2 i hi
  exact ⟨p, q, g1, g2, g3.ext he, g4.ext he⟩
theorem FRow.rows {H : AH} {v : Value} {n : Nat} {xs : List Value} {rs : List (List Int × List Int)} (h : FRow H v [.r, .r] n xs) (hv : cvs H xs = rowsV rs) : RowsA H v rs ∧ n = rs.length := by
  have hn : n = rs.length := by
    have := congrArg List.length hv
    have hl := h.len
    simp only [cvs, List.length_map, rowsV_len, List.length_cons, List.length_nil] at this hl
    omega
  subst hn
  obtain ⟨a, c, rfl, g⟩ := h.opn 2 rfl
  refine ⟨⟨a, c, rfl, fun h0 => ?_⟩, rfl⟩
  obtain ⟨b, o, cs, rfl, rfl, h1, h2, h3⟩ := g h0
  refine ⟨b, o, cs, rfl, rfl, h1, fun i hi => ?_⟩
  obtain ⟨h4, h5⟩ := h3 i hi
  obtain ⟨p, _, e, kp, q, _, rfl, kq, rfl⟩ := h.elemn 2 rfl hi
  rw [e] at h5
  obtain ⟨g1, g2⟩ := rowsV_get hi
  have e0 : (elm 2 xs i)[0]? = some p := by rw [e]; rfl
  have e1 : (elm 2 xs i)[1]? = some q := by rw [e]; rfl
  rw [elm_get (by omega)] at e0 e1
  rw [← hv] at g1 g2
  simp only [cvs, List.getElem?_map] at g1 g2
  rw [Nat.add_zero] at e0
  rw [e0, Option.map_some, cv_row kp.1] at g1
  rw [e1, Option.map_some, cv_row kq.1] at g2
  injection g1 with g1; injection g1 with g1
  injection g2 with g2; injection g2 with g2
  refine ⟨p, q, h5 0 p rfl, h5 1 q rfl, ?_, ?_⟩
  · rw [← g1]; exact kp.1
  · rw [← g2]; exact kq.1
/-- A part of a row. -/
theorem IntRow.sl {P : Program} {t e : TypeId} {H : AH} {a : Option Addr} {n c : Nat} {l : List Int} (ht : P.underlying t = some (.slice e)) (hs : szOf P e = some 1) (h : IntRow H (.slice a n c) l) {lo hi : Option Value} {x y : Nat}
    (hx : optInt 0 lo = some (x : Int)) (hy : optInt n hi = some (y : Int)) (hxy : x ≤ y) (hyn : y ≤ l.length) :
    ∃ a' c', aSlice P t (.slice a n c) lo hi = some (.slice a' (y - x) c') ∧ IntRow H (.slice a' (y - x) c') ((l.drop x).take (y - x)) ∧ (blkOf (.slice a' (y - x) c') = none ∨ blkOf (.slice a' (y - x) c') = blkOf (.slice a n c)) := by
  rcases h with ⟨e1, rfl⟩ | ⟨b, o, cs, e1, h2, h3, h4⟩
  · injection e1 with e1 e2 e3
    subst e1; subst e2; subst e3
    have : y = 0 := by simpa using hyn
    subst this
    obtain rfl : x = 0 := by omega
    refine ⟨none, 0, ?_, .inl ⟨rfl, rfl⟩, .inl rfl⟩
    rw [sln_eq ht hs, hx, hy]
    simp
  · injection e1 with e1 e2 e3
    subst e1; subst e2; subst e3
    have hlen : ((l.drop x).take (y - x)).length = y - x := by simp; omega
    refine ⟨some ⟨b, o + x, none⟩, 1, ?_, .inr ⟨b, o + x, cs, by rw [hlen], h2, by rw [hlen]; omega, ?_⟩, .inr rfl⟩
    · rw [slc_eq ht hs, hx, hy, slc_some, if_pos (by omega)]
      simp
    · rw [hlen]
      have : ints ((l.drop x).take (y - x)) = ((ints l).drop x).take (y - x) := by simp [ints]
      rw [this, ← h4, List.drop_take, List.take_take, List.drop_drop]
      rw [Nat.min_eq_left (by omega)]
theorem prodI_pos_le {x p : Int} (hx : 1 ≤ x) (hp : 0 ≤ p) : p ≤ x * p := by
  have := Int.mul_le_mul_of_nonneg_right hx hp
  omega
theorem prodI_nonneg : ∀ {l : List Int}, (l.all fun x => inB x 0 300) = true → 0 ≤ prodI l
  | [], _ => by decide
  | x :: l, h => by
    simp only [List.all_cons, Bool.and_eq_true] at h
    rw [prodI_cons]
    have h1 : 0 ≤ x := by have := h.1; simp [inB] at this; omega
    exact Int.mul_nonneg h1 (prodI_nonneg h.2)
theorem sizeI_ok {l : List Int} (h : 0 ≤ sizeI l) : l.length ≤ 3 ∧ (l.all fun x => inB x 0 300) = true ∧ sizeI l = prodI l := by
  unfold sizeI at h ⊢
  split at h
  · omega
  · rename_i h1
    split at h
    · rename_i h2
      split at h
      · omega
      · rename_i h3
        rw [if_neg h1, if_pos h2, if_neg h3]
        exact ⟨by omega, h2, rfl⟩
    · omega
theorem sizeI_of {l : List Int} (h1 : l.length ≤ 3) (h2 : (l.all fun x => inB x 0 300) = true) (h3 : prodI l ≤ 300) : sizeI l = prodI l := by
  unfold sizeI
  rw [if_neg (by omega), if_pos h2, if_neg (by omega)]
/-- The sizes of an array's rows. -/
theorem arrOk_rows {x : Int} {tl da : List Int} (h : arrOk (x :: tl) da = true) : ∃ n : Nat, x = n ∧ n ≤ 300 ∧ (0 < n → ∃ m : Nat, sizeI tl = m ∧ m ≤ 300 ∧ da.length = n * m) := by
  unfold arrOk at h
  simp only [Bool.and_eq_true, beq_iff_eq] at h
  obtain ⟨h1, h2, h3⟩ := sizeI_ok (l := x :: tl) (by omega)
  simp only [List.all_cons, Bool.and_eq_true, List.length_cons] at h1 h2
  have hx : 0 ≤ x ∧ x ≤ 300 := by have := h2.1; simp [inB] at this; omega
  refine ⟨x.toNat, by omega, by omega, fun h0 => ?_⟩
  have hp := prodI_nonneg h2.2
  rw [prodI_cons] at h3
  have hle := prodI_pos_le (x := x) (by omega) hp
  have hsz := sizeI_le (l := x :: tl)
  have ht := sizeI_of (l := tl) (by omega) h2.2 (by omega)
  refine ⟨(prodI tl).toNat, by omega, by omega, ?_⟩
  have e1 : ((x.toNat : Int)) = x := by omega
  have e2 : (((prodI tl).toNat : Int)) = prodI tl := by omega
  have : (da.length : Int) = ((x.toNat * (prodI tl).toNat : Nat) : Int) := by
    rw [Int.natCast_mul, e1, e2, h.1, h3]
  omega

/-- The place of a number in a row that may be read, and the number. -/
theorem ixI {H : AH} {a : Option Addr} {n c : Nat} {l : List Int} (h : IntRow H (.slice a n c) l) {i : Nat} (hi : i < l.length) : ∃ b o cs, aIndexAddr Try.prog 22 (.slice a n c) (.int .i64 i) = some (.pointer (some ⟨b, o + i, none⟩)) ∧ rd H b = some cs ∧ cs[o + i]? = some (.int .i64 l[i]) := by
  obtain ⟨e, b, o, cs, rfl, rfl, h1, h2⟩ := h.cells hi
  subst e
  refine ⟨b, o, cs, ?_, h1, h2⟩
  rw [ix22, if_pos (by omega)]
  simp
theorem ixI0 {H : AH} {a : Option Addr} {n c : Nat} {l : List Int} {x : Int} (h : IntRow H (.slice a n c) l) (hx : l[0]? = some x) : ∃ b o cs, aIndexAddr Try.prog 22 (.slice a n c) (.int .i64 0) = some (.pointer (some ⟨b, o, none⟩)) ∧ rd H b = some cs ∧ cs[o]? = some (.int .i64 x) := by
  obtain ⟨h0, rfl⟩ := List.getElem?_eq_some_iff.1 hx
  obtain ⟨b, o, cs, h1, h2, h3⟩ := ixI h h0
  exact ⟨b, o, cs, h1, h2, h3⟩

theorem rowsR_len {x : Int} {tl da : List Int} {n : Nat} (h : x = n) : (rowsR (x :: tl) da).length = n := by simp [rowsR, h]
theorem rowsR_get {x : Int} {tl da : List Int} {n m i : Nat} (h : x = n) (hm : sizeI tl = m) (hi : i < n) : (rowsR (x :: tl) da)[i]? = some (tl, (da.drop (i * m)).take m) := by
  simp [rowsR, h, hm, hi]
theorem New.back {H0 H1 H : AH} {v : Value} {ks : List CK} {n : Nat} {ys : List Value} (h : New H1 H v ks n ys) (hl : H0.length ≤ H1.length) : New H0 H v ks n ys := ⟨h.ot, fun b hb => Nat.le_trans hl (h.fr b hb)⟩
/-- One array more behind a row of arrays. -/
theorem take_snoc {rs : List (List Int × List Int)} {i : Nat} {r : List Int × List Int} (h : rs[i]? = some r) : rowsV (rs.take (i + 1)) = rowsV (rs.take i) ++ [.r r.1, .r r.2] := by
  obtain ⟨h1, h2⟩ := List.getElem?_eq_some_iff.1 h
  rw [List.take_succ_eq_append_getElem h1, h2, rowsV_snoc]

theorem implRows_ok {H : AH} {pa qa : Value} {sa da : List Int} (a : AR H pa qa sa da) : CallsA Try.prog 24 #[.agg #[pa, qa]] H fun r H' => (∃ ys, New H H' r [.r, .r] (rowsA sa da).length ys ∧ cvs H' ys = rowsV (rowsA sa da)) ∧ ∃ K, H' = H ++ K := by
  have al := a.lim
  obtain ⟨a1, c1, a2, c2, rfl, rfl⟩ := a.o1
  refine w24 ?_
  unfold k24
  have q := (LD.nil (H := H)).box [.slice a1 sa.length c1, .slice a2 da.length c2]
  simp -implicitDefEqProofs only [kz, kk0, kk1, kk2, kk3, ↓two_true, ↓two_false, oS_some, oM_some, mkv, aggAt, Nat.reduceLeDiff, Nat.reduceSub, Nat.reduceMul, implies_true, Nat.reduceEqDiff, reduceIte, Nat.reduceAdd, Nat.reduceBEq, reduceCtorEq, ap39_39, bd26, bs39_1, fa26_0, fa26_1, ix22, ld3, ld22, ld26, ln22, sn22, sl22] at q ⊢
  unfold rowsA
  refine (implOk_ar (a.ext q.ext)).mono ?_
  rintro _ H1 ⟨rfl, he⟩
  have q := q.extd he
  clear he
  simp -implicitDefEqProofs only [kz, kk0, kk1, kk2, kk3, ↓two_true, ↓two_false, oS_some, oM_some, mkv, aggAt, Nat.reduceLeDiff, Nat.reduceSub, Nat.reduceMul, implies_true, Nat.reduceEqDiff, reduceIte, Nat.reduceAdd, Nat.reduceBEq, reduceCtorEq, ap39_39, bd26, bs39_1, fa26_0, fa26_1, ix22, ld3, ld22, ld26, ln22, sn22, sl22, (q.rd 0 rfl).1]
  have nil0 : ∀ rs : List (List Int × List Int), rs = [] → (∃ ys, New H H1 (.slice none 0 0) [.r, .r] rs.length ys ∧ cvs H1 ys = rowsV rs) ∧ ∃ K, H1 = H ++ K := fun rs e => by
    subst e; exact ⟨⟨[], New.nil, rfl⟩, q.ext⟩
  refine two_intro (fun u => ?_) (fun u => two_intro (fun u2 => ?_) (fun u2 => ?_))
  · exact nil0 _ (by rw [show arrOk sa da = false by simpa using u]; rfl)
  · refine nil0 _ ?_
    have : sa = [] := by simpa using u2
    rw [this]; simp [rowsR]
  have ok : arrOk sa da = true := by simpa using u
  rw [ok, if_pos rfl]
  have hne : sa ≠ [] := by rintro rfl; simp at u2
  obtain ⟨x, tl, hsa⟩ := List.exists_cons_of_ne_nil hne
  have ok' := ok
  rw [hsa] at ok'
  obtain ⟨n, rfl, hn3, hm0⟩ := arrOk_rows ok'
  have ax := (a.ext q.ext).os
  obtain ⟨t1, y1, ev1, hv1, -⟩ := IntRow.sl (P := Try.prog) (t := 22) (e := 3) (lo := some (.int .i64 1)) (hi := none) (x := 1) (y := sa.length) Try.underlying22 (by kernel_rfl) ax rfl rfl (by rw [hsa]; simp) (Nat.le_refl _)
  have e1 : (sa.drop 1).take (sa.length - 1) = tl := by rw [hsa]; simp
  have e2 : sa.length - 1 = tl.length := by rw [hsa]; simp
  have tl4 : tl.length < 4611686018427387904 := by omega
  rw [e1, e2] at hv1
  rw [e2] at ev1
  have es := fun Φ => (implSizeOf_ok hv1 tl4).eq0 (Φ := Φ)
  have hrl : (rowsR sa da).length = n := by rw [hsa]; exact rowsR_len rfl
  simp -implicitDefEqProofs only [kz, kk0, kk1, kk2, kk3, ↓two_true, ↓two_false, oS_some, oM_some, mkv, aggAt, Nat.reduceLeDiff, Nat.reduceSub, Nat.reduceMul, implies_true, Nat.reduceEqDiff, reduceIte, Nat.reduceAdd, Nat.reduceBEq, reduceCtorEq, ap39_39, bd26, bs39_1, fa26_0, fa26_1, ix22, ld3, ld22, ld26, ln22, sn22, sl22, (q.rd 0 rfl).1, ev1, es]
  refine rW_loop (σ := Nat × Option Addr × Nat × List Value) (fun (i, a', c', ys) tm H' => tm 1 = .pointer (some ⟨H.length, 0, none⟩) ∧ tm 3 = .int .i64 (sizeI tl) ∧ tm 4 = .slice a' i c' ∧ tm 5 = .int .i64 i ∧ i ≤ n ∧
    New H1 H' (.slice a' i c') [.r, .r] i ys ∧ cvs H' ys = rowsV ((rowsR sa da).take i) ∧ ∃ K, H' = H1 ++ K) (fun (i, _) => n - i) (0, none, 0, []) ?_ ?_
  · exact ⟨rfl, rfl, rfl, rfl, Nat.zero_le _, New.nil, rfl, ext_refl⟩
  · rintro ⟨i, a', c', ys⟩ tm H2 ⟨h1, h3, h4, h5, hi, hnw, hcv, he⟩
    have g0 := rd_ext (q.rd 0 rfl).1 he
    have he0 := ext_trans q.ext he
    have a2' := a.ext he0
    obtain ⟨b9, o9, cs9, ei9, hrd, hc0⟩ := ixI0 a2'.os (x := (n : Int)) (by rw [hsa]; rfl)
    simp -implicitDefEqProofs only [kz, kk0, kk1, kk2, kk3, ↓two_true, ↓two_false, oS_some, oM_some, mkv, aggAt, Nat.reduceLeDiff, Nat.reduceSub, Nat.reduceMul, implies_true, Nat.reduceEqDiff, reduceIte, Nat.reduceAdd, Nat.reduceBEq, reduceCtorEq, ap39_39, bd26, bs39_1, fa26_0, fa26_1, ix22, ld3, ld22, ld26, ln22, sn22, sl22, h1, h3, h4, h5, g0, ei9, hrd, hc0]
    refine two_intro (fun hc => ?_) (fun hc => ?_)
    · have hlt : i < n := by simpa using hc
      obtain ⟨m, hm, hm3, hdl⟩ := hm0 (by omega)
      have hb1 : (i + 1) * m ≤ n * m := Nat.mul_le_mul_right m hlt
      have hb2 : (i + 1) * m = i * m + m := by rw [Nat.add_mul, Nat.one_mul]
      have hdl3 := arrOk_len ok
      have w1 : IntKind.i64.wrap ((i : Int) * (m : Int)) = ((i * m : Nat) : Int) := by rw [← Int.natCast_mul, IntWalk.i64_in _ (by omega)]
      have w2 : IntKind.i64.wrap ((i : Int) + 1) = ((i + 1 : Nat) : Int) := by rw [IntWalk.i64_in _ (by omega)]; rfl
      have w3 : IntKind.i64.wrap (((i + 1 : Nat) : Int) * (m : Int)) = (((i + 1) * m : Nat) : Int) := by rw [← Int.natCast_mul, IntWalk.i64_in _ (by omega)]
      obtain ⟨t2, y2, ev2, hv2, -⟩ := IntRow.sl (P := Try.prog) (t := 22) (e := 3) (lo := some (.int .i64 ((i * m : Nat) : Int))) (hi := some (.int .i64 (((i + 1) * m : Nat) : Int))) (x := i * m) (y := (i + 1) * m) Try.underlying22 (by kernel_rfl) a2'.od rfl rfl (by omega) (by omega)
      have e3 : (i + 1) * m - i * m = m := by omega
      rw [e3] at ev2 hv2
      have hv1' := hv1.ext he
      have hdm : ((da.drop (i * m)).take m).length = m := by simp; omega
      obtain ⟨D, hD⟩ : ∃ D, (da.drop (i * m)).take m = D := ⟨_, rfl⟩
      have hlr : (rowsR sa da)[i]? = some (tl, (da.drop (i * m)).take m) := by rw [hsa]; exact rowsR_get rfl hm hlt
      rw [hD] at hdm hv2 hlr
      simp -implicitDefEqProofs only [kz, kk0, kk1, kk2, kk3, ↓two_true, ↓two_false, oS_some, oM_some, mkv, aggAt, Nat.reduceLeDiff, Nat.reduceSub, Nat.reduceMul, implies_true, Nat.reduceEqDiff, reduceIte, Nat.reduceAdd, Nat.reduceBEq, reduceCtorEq, ap39_39, bd26, bs39_1, fa26_0, fa26_1, ix22, ld3, ld22, ld26, ln22, sn22, sl22, h1, h3, h4, h5, g0, ev1, hm, w1, w2, w3, ev2]
      have ac : AR H2 (.slice t1 tl.length y1) (.slice t2 m y2) tl D := ⟨hv1', hv2, by have := a.l1; omega, by omega⟩
      refine (copyA_ok ac).mono ?_
      rintro _ H3 ⟨p', q', rfl, g⟩
      simp only at g
      obtain ⟨a3, c3, e5⟩ := (g.own 0 rfl).isSlice
      obtain ⟨a4, c4, e6⟩ := (g.own 1 rfl).isSlice
      have r1 := (g.own 0 rfl).kok (by have := a.l1; omega)
      have r2 := (g.own 1 rfl).kok (by omega)
      have f1 := g.fr 0 _ rfl
      have f2 := g.fr 1 _ rfl
      have dj := g.dj 0 1 _ _ (by decide) rfl rfl
      simp only [It.bs] at f1 f2 dj
      subst e5; subst e6
      simp -implicitDefEqProofs only [kz, kk0, kk1, kk2, kk3, ↓two_true, ↓two_false, oS_some, oM_some, mkv, aggAt, Nat.reduceLeDiff, Nat.reduceSub, Nat.reduceMul, implies_true, Nat.reduceEqDiff, reduceIte, Nat.reduceAdd, Nat.reduceBEq, reduceCtorEq, ap39_39, bd26, bs39_1, fa26_0, fa26_1, ix22, ld3, ld22, ld26, ln22, sn22, sl22, h1, h3, h4, h5]
      refine oA_newn 2 rfl hnw g.ext ⟨_, _, rfl, r1.1, _, _, rfl, r2.1, rfl⟩ ?_ ?_ (pw_get (by simp; exact dj)) (ext_len he) (by omega) fun b' H4 f3 x3 v3 => ?_
      · simp; exact ⟨r1.2.1, r2.2.1⟩
      · simp only [List.mem_cons, List.not_mem_nil, or_false]
        rintro y (rfl | rfl) b hb
        · exact f1 b hb
        · exact f2 b hb
      · have he4 := x3.ext (H0 := H1) (ext_trans he g.ext) hnw.blk
        · simp -implicitDefEqProofs only [kz, kk0, kk1, kk2, kk3, ↓two_true, ↓two_false, oS_some, oM_some, mkv, aggAt, Nat.reduceLeDiff, Nat.reduceSub, Nat.reduceMul, implies_true, Nat.reduceEqDiff, reduceIte, Nat.reduceAdd, Nat.reduceBEq, reduceCtorEq, ap39_39, bd26, bs39_1, fa26_0, fa26_1, ix22, ld3, ld22, ld26, ln22, sn22, sl22, h1, h3, h4, h5, w2]
          refine ⟨(i + 1, _, _, _), by simp only; omega, by rw [hm], rfl, rfl, hlt, f3, ?_, he4⟩
          rw [v3, hcv, take_snoc hlr]
          simp only [List.map_cons, List.map_nil, r1.2.2, r2.2.2]
    · have hil : i = n := Nat.le_antisymm hi (Nat.not_lt.1 (by simpa using hc))
      subst hil
      refine ⟨⟨ys, ?_, ?_⟩, he0⟩
      · rw [hrl]; exact hnw.back (ext_len q.ext)
      · rw [hcv, List.take_of_length_le (by omega)]

theorem l3Rows_ok {H : AH} {pa qa : Value} {sa da : List Int} (a : AR H pa qa sa da) (ok : arrOk sa da = true) (hne : sa ≠ []) : CallsA Try.prog 61 #[.agg #[pa, qa]] H fun r H' => (∃ ys, New H H' r [.r, .r] (rowsR sa da).length ys ∧ cvs H' ys = rowsV (rowsR sa da)) ∧ ∃ K, H' = H ++ K := by
  have al := a.lim
  obtain ⟨a1, c1, a2, c2, rfl, rfl⟩ := a.o1
  refine w61 ?_
  unfold k61
  have q := (LD.nil (H := H)).box [.slice a1 sa.length c1, .slice a2 da.length c2]
  have hHl : (H ++ [⟨[.slice a1 sa.length c1, .slice a2 da.length c2], .own⟩] : AH).length = H.length + 1 := by simp
  have hap : (H ++ [⟨[.slice a1 sa.length c1, .slice a2 da.length c2], .own⟩, ⟨[], .own⟩] : AH) = (H ++ [⟨[.slice a1 sa.length c1, .slice a2 da.length c2], .own⟩]) ++ [⟨[], .own⟩] := by simp
  simp -implicitDefEqProofs only [kz, kk0, kk1, kk2, kk3, ↓two_true, ↓two_false, oS_some, oM_some, mkv, aggAt, Nat.reduceLeDiff, Nat.reduceSub, Nat.reduceMul, implies_true, Nat.reduceEqDiff, reduceIte, Nat.reduceAdd, Nat.reduceBEq, reduceCtorEq, ap22_22, ap39_39, bd26, bs22_0, bs39_0, bs39_1, fa26_0, fa26_1, ix22, ld3, ld22, sn22, sl22]
  rw [hap]
  generalize (H ++ [⟨[.slice a1 sa.length c1, .slice a2 da.length c2], .own⟩] : AH) = Hb at *
  have hq := q.ext
  have b1 := (q.rd 0 rfl).1
  have hbn : (Hb ++ [⟨[], .own⟩] : AH)[H.length + 1]? = some ⟨[], .own⟩ := by rw [← hHl, gt0]; rfl
  obtain ⟨x, tl, hsa⟩ := List.exists_cons_of_ne_nil hne
  have ok' := ok
  rw [hsa] at ok'
  obtain ⟨n, rfl, hn3, hm0⟩ := arrOk_rows ok'
  have ax := (a.ext (ext_trans hq ⟨[⟨[], .own⟩], rfl⟩)).os
  obtain ⟨t1, y1, ev1, hv1, -⟩ := IntRow.sl (P := Try.prog) (t := 22) (e := 3) (lo := some (.int .i64 1)) (hi := none) (x := 1) (y := sa.length) Try.underlying22 (by kernel_rfl) ax rfl rfl (by rw [hsa]; simp) (Nat.le_refl _)
  have e1 : (sa.drop 1).take (sa.length - 1) = tl := by rw [hsa]; simp
  have e2 : sa.length - 1 = tl.length := by rw [hsa]; simp
  have tl4 : tl.length < 4611686018427387904 := by omega
  rw [e1, e2] at hv1
  rw [e2] at ev1
  have es := fun Φ => (specSizeOf_ok hv1 tl4).eq0 (Φ := Φ)
  have hrl : (rowsR sa da).length = n := by rw [hsa]; exact rowsR_len rfl
  have hnw0 : New Hb (Hb ++ [⟨[], .own⟩]) (.slice (some ⟨H.length + 1, 0, none⟩) 0 2) [.r, .r] 0 [] := New.at0n (ks := [.r, .r]) rfl hbn (by omega)
  have b2 := fun L => rd_ext (H' := Hb ++ L) b1 ⟨L, rfl⟩
  simp -implicitDefEqProofs only [kz, kk0, kk1, kk2, kk3, ↓two_true, ↓two_false, oS_some, oM_some, mkv, aggAt, Nat.reduceLeDiff, Nat.reduceSub, Nat.reduceMul, implies_true, Nat.reduceEqDiff, reduceIte, Nat.reduceAdd, Nat.reduceBEq, reduceCtorEq, ap22_22, ap39_39, bd26, bs22_0, bs39_0, bs39_1, fa26_0, fa26_1, ix22, ld3, ld22, sn22, sl22, b2, ev1, es]
  refine rW_loop (σ := Nat × Option Addr × Nat × List Value) (fun (i, a', c', ys) tm H' => tm 1 = .pointer (some ⟨H.length, 0, none⟩) ∧ tm 4 = .int .i64 (sizeI tl) ∧ tm 3 = .slice a' i c' ∧ tm 5 = .int .i64 i ∧ i ≤ n ∧
    New Hb H' (.slice a' i c') [.r, .r] i ys ∧ cvs H' ys = rowsV ((rowsR sa da).take i) ∧ ∃ K, H' = Hb ++ K) (fun (i, _) => n - i) (0, some ⟨H.length + 1, 0, none⟩, 2, []) ?_ ?_
  · exact ⟨rfl, rfl, rfl, rfl, Nat.zero_le _, hnw0, rfl, ⟨_, rfl⟩⟩
  · rintro ⟨i, a', c', ys⟩ tm H2 ⟨h1, h4, h3, h5, hi, hnw, hcv, he⟩
    have he0 := ext_trans hq he
    have a2' := a.ext he0
    have g0 := rd_ext b1 he
    obtain ⟨b9, o9, cs9, ei9, hrd, hc0⟩ := ixI0 a2'.os (x := (n : Int)) (by rw [hsa]; rfl)
    simp -implicitDefEqProofs only [kz, kk0, kk1, kk2, kk3, ↓two_true, ↓two_false, oS_some, oM_some, mkv, aggAt, Nat.reduceLeDiff, Nat.reduceSub, Nat.reduceMul, implies_true, Nat.reduceEqDiff, reduceIte, Nat.reduceAdd, Nat.reduceBEq, reduceCtorEq, ap22_22, ap39_39, bd26, bs22_0, bs39_0, bs39_1, fa26_0, fa26_1, ix22, ld3, ld22, sn22, sl22, h1, h3, h4, h5, g0, ei9, hrd, hc0]
    refine two_intro (fun hc => ?_) (fun hc => ?_)
    · have hlt : i < n := by simpa using hc
      obtain ⟨m, hm, hm3, hdl⟩ := hm0 (by omega)
      have hb1 : (i + 1) * m ≤ n * m := Nat.mul_le_mul_right m hlt
      have hb2 : (i + 1) * m = i * m + m := by rw [Nat.add_mul, Nat.one_mul]
      have hdl3 := arrOk_len ok
      have w1 : IntKind.i64.wrap ((i : Int) * (m : Int)) = ((i * m : Nat) : Int) := by rw [← Int.natCast_mul, IntWalk.i64_in _ (by omega)]
      have w2 : IntKind.i64.wrap ((i : Int) + 1) = ((i + 1 : Nat) : Int) := by rw [IntWalk.i64_in _ (by omega)]; rfl
      have w3 : IntKind.i64.wrap (((i * m : Nat) : Int) + (m : Int)) = ((i * m + m : Nat) : Int) := by rw [← Int.natCast_add, IntWalk.i64_in _ (by omega)]
      obtain ⟨t2, y2, ev2, hv2, -⟩ := IntRow.sl (P := Try.prog) (t := 22) (e := 3) (lo := some (.int .i64 ((i * m : Nat) : Int))) (hi := some (.int .i64 ((i * m + m : Nat) : Int))) (x := i * m) (y := i * m + m) Try.underlying22 (by kernel_rfl) a2'.od rfl rfl (by omega) (by omega)
      have e3 : i * m + m - i * m = m := by omega
      rw [e3] at ev2 hv2
      have hv1' : IntRow H2 (.slice t1 tl.length y1) tl := by
        obtain ⟨t1', y1', ev1', hv1', -⟩ := IntRow.sl (P := Try.prog) (t := 22) (e := 3) (lo := some (.int .i64 1)) (hi := none) (x := 1) (y := sa.length) Try.underlying22 (by kernel_rfl) a2'.os rfl rfl (by rw [hsa]; simp) (Nat.le_refl _)
        rw [e1, e2] at hv1'
        rw [e2, ev1] at ev1'
        injection ev1' with e; injection e with e1 _ e3
        rw [e1, e3]; exact hv1'
      have hdm : ((da.drop (i * m)).take m).length = m := by simp; omega
      obtain ⟨D, hD⟩ : ∃ D, (da.drop (i * m)).take m = D := ⟨_, rfl⟩
      have hlr : (rowsR sa da)[i]? = some (tl, (da.drop (i * m)).take m) := by rw [hsa]; exact rowsR_get rfl hm hlt
      rw [hD] at hdm hv2 hlr
      have g := (LD.nil (H := H2)).lit (cs := []) (n := 0) [] rfl rfl
      have gb := fun L => rd_ext (H' := H2 ++ L) g0 ⟨_, rfl⟩
      simp -implicitDefEqProofs only [kz, kk0, kk1, kk2, kk3, ↓two_true, ↓two_false, oS_some, oM_some, mkv, aggAt, Nat.reduceLeDiff, Nat.reduceSub, Nat.reduceMul, implies_true, Nat.reduceEqDiff, reduceIte, Nat.reduceAdd, Nat.reduceBEq, reduceCtorEq, ap22_22, ap39_39, bd26, bs22_0, bs39_0, bs39_1, fa26_0, fa26_1, ix22, ld3, ld22, sn22, sl22, h1, h3, h4, h5, g0, gb, ev1, hm, w1, w2, w3, ev2]
      refine oA_own (g.own 0 rfl) (hv1'.ext g.ext) (by have := a.l1; simp; omega) fun a3 c3 H3 o3 x3 => ?_
      have g := (g.push 0 rfl o3 x3)
      simp only [List.length_nil, Nat.zero_add, List.nil_append] at g ⊢
      have gb3 := rd_ext g0 g.ext
      have g := g.lit (cs := []) (n := 0) [] rfl rfl
      have ge := g.ext
      have gb4 := rd_ext g0 ge
      simp -implicitDefEqProofs only [kz, kk0, kk1, kk2, kk3, ↓two_true, ↓two_false, oS_some, oM_some, mkv, aggAt, Nat.reduceLeDiff, Nat.reduceSub, Nat.reduceMul, implies_true, Nat.reduceEqDiff, reduceIte, Nat.reduceAdd, Nat.reduceBEq, reduceCtorEq, ap22_22, ap39_39, bd26, bs22_0, bs39_0, bs39_1, fa26_0, fa26_1, ix22, ld3, ld22, sn22, sl22, h1, h3, h4, h5, g0, gb3, gb4, hm, w1, w2, w3, ev2]
      refine oA_own (g.own 0 rfl) (hv2.ext ge) (by simp; omega) fun a4 c4 H4 o4 x4 => ?_
      have g := (g.push 0 rfl o4 x4)
      simp only [List.length_nil, Nat.zero_add, List.nil_append, List.set_cons_zero] at g ⊢
      have r1 := (g.own 1 rfl).kok (by have := a.l1; omega)
      have r2 := (g.own 0 rfl).kok (by omega)
      have f1 := g.fr 1 _ rfl
      have f2 := g.fr 0 _ rfl
      have dj := g.dj 1 0 _ _ (by decide) rfl rfl
      simp only [It.bs] at f1 f2 dj
      simp -implicitDefEqProofs only [kz, kk0, kk1, kk2, kk3, ↓two_true, ↓two_false, oS_some, oM_some, mkv, aggAt, Nat.reduceLeDiff, Nat.reduceSub, Nat.reduceMul, implies_true, Nat.reduceEqDiff, reduceIte, Nat.reduceAdd, Nat.reduceBEq, reduceCtorEq, ap22_22, ap39_39, bd26, bs22_0, bs39_0, bs39_1, fa26_0, fa26_1, ix22, ld3, ld22, sn22, sl22, h1, h3, h4, h5]
      refine oA_newn 2 rfl hnw g.ext ⟨_, _, rfl, r1.1, _, _, rfl, r2.1, rfl⟩ ?_ ?_ (pw_get (by simp; exact dj)) (ext_len he) (by omega) fun b' H5 f5 x5 v5 => ?_
      · simp; exact ⟨r1.2.1, r2.2.1⟩
      · simp only [List.mem_cons, List.not_mem_nil, or_false]
        rintro y (rfl | rfl) b hb
        · exact f1 b hb
        · exact f2 b hb
      · have he5 := x5.ext (H0 := Hb) (ext_trans he g.ext) hnw.blk
        simp -implicitDefEqProofs only [kz, kk0, kk1, kk2, kk3, ↓two_true, ↓two_false, oS_some, oM_some, mkv, aggAt, Nat.reduceLeDiff, Nat.reduceSub, Nat.reduceMul, implies_true, Nat.reduceEqDiff, reduceIte, Nat.reduceAdd, Nat.reduceBEq, reduceCtorEq, ap22_22, ap39_39, bd26, bs22_0, bs39_0, bs39_1, fa26_0, fa26_1, ix22, ld3, ld22, sn22, sl22, h1, h3, h4, h5, w2]
        refine ⟨(i + 1, _, _, _), by simp only; omega, by rw [hm], rfl, rfl, hlt, f5, ?_, he5⟩
        rw [v5, hcv, take_snoc hlr]
        simp only [List.map_cons, List.map_nil, r1.2.2, r2.2.2]
    · have hil : i = n := Nat.le_antisymm hi (Nat.not_lt.1 (by simpa using hc))
      subst hil
      refine ⟨⟨ys, ?_, ?_⟩, he0⟩
      · rw [hrl]; exact hnw.back (by omega)
      · rw [hcv, List.take_of_length_le (by omega)]

theorem LD.rows {c : Option Nat} {H0 H : AH} {L : List It} {v : Value} {n : Nat} {ys : List Value} {rs : List (List Int × List Int)} (h : LD c H0 H L) (i : Nat) (hi : L[i]? = some (.cmp (.row v [.r, .r] n ys) (rowsV rs))) : RowsA H v rs ∧ n = rs.length := by
  obtain ⟨h1, h2⟩ := h.ok i _ hi
  exact FRow.rows (OT.frow h1) h2
theorem ldA2 {o : Nat} {cs : List Value} {p q : Value} (h1 : cs[o]? = some p) (h2 : cs[o + 1]? = some q) : ld Try.prog 26 o cs = some (.agg #[p, q]) := by
  have l2 := (List.getElem?_eq_some_iff.1 h2).1
  rw [show ld Try.prog 26 o cs = aggAt 2 o cs from ld_agg (by kernel_rfl) (by kernel_rfl)]
  exact aggAt_row (x := [p, q]) rfl (by omega) fun j y hy => by
    match j with
    | 0 => simp at hy; subst hy; exact h1
    | 1 => simp at hy; subst hy; exact h2
    | j + 2 => simp at hy
/-- The place of an array in a row of arrays, and the array. -/
theorem ixR {H : AH} {a : Option Addr} {n c : Nat} {rs : List (List Int × List Int)} (h : RowsA H (.slice a n c) rs) {i : Nat} (hi : i < rs.length) : ∃ b o cs p q, aIndexAddr Try.prog 39 (.slice a n c) (.int .i64 i) = some (.pointer (some ⟨b, o + i * 2, none⟩)) ∧ rd H b = some cs ∧ cs[o + i * 2]? = some p ∧ cs[o + i * 2 + 1]? = some q ∧ IntRow H p rs[i].1 ∧ IntRow H q rs[i].2 := by
  obtain ⟨a', c', e, g⟩ := h
  injection e with e1 e2 e3
  subst e1; subst e2; subst e3
  obtain ⟨b, o, cs, rfl, rfl, h1, h2⟩ := g (by omega)
  obtain ⟨p, q, h3, h4, h5, h6⟩ := h2 i hi
  refine ⟨b, o, cs, p, q, ?_, h1, h3, h4, h5, h6⟩
  rw [ix39, if_pos (by omega)]
  simp
theorem rowsR_len' {sb db : List Int} (h : arrOk sb db = true) (hne : sb ≠ []) : ((rowsR sb db).length : Int) = sb.headD 0 := by
  obtain ⟨x, tl, rfl⟩ := List.exists_cons_of_ne_nil hne
  obtain ⟨n, rfl, -, -⟩ := arrOk_rows h
  rw [rowsR_len rfl]; rfl
/-- The rows' numbers. -/
theorem rowsR_row {sb db : List Int} (h : arrOk sb db = true) {i : Nat} {r : List Int × List Int} (hr : (rowsR sb db)[i]? = some r) : r.1 = sb.tail ∧ 0 ≤ sizeI sb.tail ∧ (r.2.length : Int) = sizeI sb.tail ∧ r.2.all numOk = true ∧ r.2.length ≤ 300 := by
  cases sb with
  | nil => simp [rowsR] at hr
  | cons x tl =>
    obtain ⟨n, rfl, hn3, hm0⟩ := arrOk_rows h
    have hi := (List.getElem?_eq_some_iff.1 hr).1
    rw [rowsR_len rfl] at hi
    obtain ⟨m, hm, hm3, hdl⟩ := hm0 (by omega)
    rw [rowsR_get rfl hm hi] at hr
    cases hr
    have hb1 : (i + 1) * m ≤ n * m := Nat.mul_le_mul_right m hi
    have hb2 : (i + 1) * m = i * m + m := by rw [Nat.add_mul, Nat.one_mul]
    have hd : ((db.drop (i * m)).take m).length = m := by simp; omega
    refine ⟨rfl, by simp only [List.tail_cons]; omega, by simp only [List.tail_cons]; rw [hm, hd], ?_, by simp only; omega⟩
    unfold arrOk at h
    simp only [Bool.and_eq_true] at h
    rw [List.all_eq_true] at h ⊢
    exact fun y hy => h.2 y (List.mem_of_mem_drop (List.mem_of_mem_take hy))
theorem FRow.cln {H : AH} {v : Value} {ks : List CK} {n : Nat} {xs : List Value} (s : Nat) (hs : ks.length = s) (h : FRow H v ks n xs) : Go.Proofs.Ytmlimgdpcoloiaa.AM.cl H s v = some xs ∧ lenS v = n ∧ xs.all leaf = true := by
  subst hs
  have hl := h.len
  refine ⟨?_, ?_, List.all_eq_true.2 fun y hy => ?_⟩
  · rcases h.row with ⟨rfl, rfl⟩ | ⟨b, o, cs, rfl, h1, h2, h3⟩
    · have : xs = [] := List.eq_nil_of_length_eq_zero (by rw [hl]; simp)
      rw [this]; rfl
    · simp only [Go.Proofs.Ytmlimgdpcoloiaa.AM.cl, h1, Option.bind_some]
      rw [if_pos h2]
      congr 1
      refine List.ext_getElem? fun j => ?_
      rcases Nat.lt_or_ge j (n * ks.length) with e | e
      · rw [List.getElem?_take_of_lt e, List.getElem?_drop, List.getElem?_eq_getElem (by omega)]
        have := h3 j _ (List.getElem?_eq_getElem (l := xs) (by omega))
        rw [List.getElem?_eq_getElem (by omega)] at this
        exact this.trans (List.getElem?_eq_getElem (by omega)).symm
      · rw [List.getElem?_eq_none (by simp; omega), List.getElem?_eq_none (by omega)]
  · rcases h.row with ⟨rfl, rfl⟩ | ⟨b, o, cs, rfl, h1, h2, h3⟩ <;> rfl
  · obtain ⟨j, hj⟩ := List.mem_iff_getElem?.1 hy
    obtain ⟨k, hk⟩ := h.cell hj
    exact hk.leaf
theorem TabOk.ownOk {B : Nat → Prop} {H : AH} {v : Value} {ks : List CK} {n : Nat} {xs : List Value} (s : Nat) (hs : ks.length = s) (h : TabOk B H v ks n xs) : Go.Proofs.Ytmlimgdpcoloiaa.AM.ownOk v s H = true := by
  subst hs
  rcases h.row with ⟨rfl, rfl⟩ | ⟨b, o, cs, rfl, h1, h2, h3⟩
  · simp [Go.Proofs.Ytmlimgdpcoloiaa.AM.ownOk]
  · simp [Go.Proofs.Ytmlimgdpcoloiaa.AM.ownOk, h1]
/-- Rows that are only read are put behind a table. -/
theorem st_appT {c0 : Option Nat} {H0 H : AH} {L : List Ix} {Φ : Value → AH → Prop} {v w : Value} {ks : List CK} {n m : Nat} {xs ys : List Value} {V W : List CV} (s : Nat) (hs : ks.length = s) (q : LX c0 H0 H L) (i : Nat) (hi : L[i]? = some (.tab v ks n xs V))
    (hw : ∀ B, LB B c0 H0 H L → FRow H w ks m ys ∧ cvs H ys = W ∧ ∀ y ∈ ys, ∀ b, blkOf y = some b → B b) (hl : n + m ≤ 1073741824)
    (k : ∀ a c H', LX c0 H0 H' (L.set i (.tab (.slice a (n + m) c) ks (n + m) (xs ++ ys) (V ++ W))) → Φ (.slice a (n + m) c) H') : oA (app s v w H) Φ := by
  obtain ⟨B, h⟩ := q
  obtain ⟨t1, t2⟩ := h.ok i _ hi
  obtain ⟨f1, f2, f3⟩ := hw B h
  obtain ⟨c1, c2, c3⟩ := t1.frow.cln s hs
  obtain ⟨d1, d2, d3⟩ := f1.cln s hs
  have c4 := t1.ownOk s hs
  unfold app
  rw [c1, d1]
  simp only
  rw [d2, c2]
  have l1 := t1.len
  have l2 := f1.len
  subst hs
  by_cases hm : m = 0
  · rw [if_pos hm]
    subst hm
    have e : ys = [] := List.eq_nil_of_length_eq_zero (by rw [l2]; simp)
    subst e
    obtain ⟨a, c, e, _⟩ := t1.frow.op
    subst e
    have e2 : W = [] := by rw [← f2]; rfl
    subst e2
    have := k a c H
    simp only [List.append_nil, Nat.add_zero] at this
    refine this ⟨B, ?_⟩
    have e3 : L.set i (.tab (.slice a n c) ks n xs V) = L := by
      refine List.ext_getElem? fun j => ?_
      rcases Nat.decEq i j with e | e
      · rw [List.getElem?_set_ne e]
      · subst e; rw [List.getElem?_set_self (List.getElem?_eq_some_iff.1 hi).1]; exact hi.symm
    rw [e3]; exact h
  · rw [if_neg hm, if_pos ⟨hl, d3, c4⟩]
    have keep : ∀ b, b < H.length → blkOf v ≠ some b → (kill v H ++ [⟨xs ++ ys, .own⟩] : AH)[b]? = H[b]? := fun b hb hn => by
      rw [List.getElem?_append_left (by rw [kill_len2]; exact hb), kill_keep hn]
    have hB : ∀ b, B b → (kill v H ++ [⟨xs ++ ys, .own⟩] : AH)[b]? = H[b]? := fun b hb => keep b (h.bl b hb).1 fun e => (h.fr i _ hi b e).1 hb
    have hcell : ∀ y ∈ xs ++ ys, ∀ b, blkOf y = some b → B b := fun y hy b hb => (List.mem_append.1 hy).elim (fun h1 => t1.base y h1 b hb) fun h1 => f3 y h1 b hb
    refine k _ _ _ ⟨B, h.upd i hi (by simp [kill_len2]) (fun b hb hn => keep b hb hn) ⟨⟨?_, ?_, ?_, hcell⟩, ?_⟩ fun b hb => .inr ?_⟩
    · rw [List.length_append, l1, l2, Nat.add_mul]
    · refine .inr ⟨H.length, 0, xs ++ ys, rfl, by rw [← kill_len2 (v := v), gt0]; rfl, by rw [List.length_append, l1, l2, Nat.add_mul]; omega, fun j y hy => by rw [Nat.zero_add]; exact hy⟩
    · intro i' c k' y hi' hk' hy
      have hmem : y ∈ xs ++ ys := List.mem_of_getElem? hy
      refine KOk.same (H := H) ?_ fun b hb => get_rd (hB b (hcell y hmem b hb))
      have hc := (List.getElem?_eq_some_iff.1 hk').1
      rcases Nat.lt_or_ge i' n with h1 | h1
      · have := row_lt (s := ks.length) h1
        rw [List.getElem?_append_left (by rw [l1]; omega)] at hy
        exact t1.cell i' c k' y h1 hk' hy
      · obtain ⟨d, rfl⟩ := Nat.exists_eq_add_of_le h1
        rw [List.getElem?_append_right (by rw [l1, Nat.add_mul]; omega), l1, Nat.add_mul, Nat.add_assoc, Nat.add_sub_cancel_left] at hy
        exact f1.ok d c k' y (by omega) hk' hy
    · unfold cvs
      rw [List.map_append]
      congr 1
      · rw [← t2]; exact List.map_congr_left fun y hy => cv_same fun b hb => get_rd (hB b (hcell y (List.mem_append.2 (.inl hy)) b hb))
      · rw [← f2]; exact List.map_congr_left fun y hy => cv_same fun b hb => get_rd (hB b (hcell y (List.mem_append.2 (.inr hy)) b hb))
    · simp [Ix.bs, blkOf] at hb; omega
/-- One array more, of two rows that are only read. -/
theorem lit2 {B : Nat → Prop} {c0 : Option Nat} {H0 H : AH} {L : List Ix} {b : Nat} {p p' : Value} {l l' : List Int} (h : LB B c0 H0 H L) (j k1 k2 : Nat) (hj : L[j]? = some (.own (.box b [p, p']))) (h1 : L[k1]? = some (.fro p l)) (h2 : L[k2]? = some (.fro p' l')) (n1 : l.length < 1073741825) (n2 : l'.length < 1073741825) :
    FRow H (.slice (some ⟨b, 0, none⟩) 1 2) [.r, .r] 1 [p, p'] ∧ cvs H [p, p'] = rowsV [(l, l')] ∧ ∀ y ∈ [p, p'], ∀ g, blkOf y = some g → B g := by
  have hb : H[b]? = some ⟨[p, p'], .own⟩ := h.ok j _ hj
  obtain ⟨r1, b1⟩ := h.ok k1 _ h1
  obtain ⟨r2, b2⟩ := h.ok k2 _ h2
  have e1 : KOk H .r p := ⟨r1.ok, by rw [r1.row]; exact n1⟩
  have e2 : KOk H .r p' := ⟨r2.ok, by rw [r2.row]; exact n2⟩
  refine ⟨⟨rfl, .inr ⟨b, 0, [p, p'], rfl, rd_own hb, by simp, fun j y hy => by rw [Nat.zero_add]; exact hy⟩, ?_⟩, ?_, ?_⟩
  · intro i c k y hi hk hy
    obtain rfl : i = 0 := by omega
    match c with
    | 0 => simp at hk hy; subst hk; subst hy; exact e1
    | 1 => simp at hk hy; subst hk; subst hy; exact e2
    | c + 2 => simp at hk
  · simp only [cvs, List.map_cons, List.map_nil, cv_row r1.ok, cv_row r2.ok, r1.row, r2.row, rowsV, List.flatMap_cons, List.flatMap_nil, List.append_nil]
  · intro y hy g hg
    simp only [List.mem_cons, List.not_mem_nil, or_false] at hy
    rcases hy with rfl | rfl
    · exact b1 g hg
    · exact b2 g hg
theorem st_app2 {c0 : Option Nat} {H0 H : AH} {L : List Ix} {Φ : Value → AH → Prop} {v : Value} {n b : Nat} {xs : List Value} {rs : List (List Int × List Int)} {p p' : Value} {l l' : List Int} (q : LX c0 H0 H L) (i j k1 k2 : Nat) (hi : L[i]? = some (.tab v [.r, .r] n xs (rowsV rs)))
    (hj : L[j]? = some (.own (.box b [p, p']))) (h1 : L[k1]? = some (.fro p l)) (h2 : L[k2]? = some (.fro p' l')) (n1 : l.length < 1073741825) (n2 : l'.length < 1073741825) (hl : n + 1 ≤ 1073741824)
    (k : ∀ a c H' ys, LX c0 H0 H' (L.set i (.tab (.slice a (n + 1) c) [.r, .r] (n + 1) ys (rowsV (rs ++ [(l, l')])))) → Φ (.slice a (n + 1) c) H') : oA (app 2 v (.slice (some ⟨b, 0, none⟩) 1 2) H) Φ :=
  st_appT 2 rfl q i hi (fun _ h => lit2 h j k1 k2 hj h1 h2 n1 n2) hl fun a c H' g => k a c H' _ (by rw [rowsV_snoc]; exact g)
theorem LX.nrows {c0 : Option Nat} {H0 H H' : AH} {L : List Ix} {v : Value} {n : Nat} {ys : List Value} {rs : List (List Int × List Int)} (h : LX c0 H0 H L) (hv : New H H' v [.r, .r] n ys) (hV : cvs H' ys = rowsV rs) (hf : ∃ K, H' = H ++ K) : LX c0 H0 H' (.ftab v [.r, .r] n ys (rowsV rs) :: L) := by
  obtain ⟨B, h⟩ := h
  obtain ⟨K, rfl⟩ := hf
  have : LX c0 H0 (H ++ K) (.own (.cmp (.row v [.r, .r] n ys) (rowsV rs)) :: L) :=
    ⟨B, h.add (by simp) (fun b hb _ => List.getElem?_append_left hb) (fun g e => (h.cur g e).mono) ⟨hv.ot, hV⟩ fun b hb => hv.fr b hb⟩
  exact this.fzc 0 rfl
theorem LX.rowsF {c0 : Option Nat} {H0 H : AH} {L : List Ix} {v : Value} {n : Nat} {ys : List Value} {rs : List (List Int × List Int)} (h : LX c0 H0 H L) (i : Nat) (hi : L[i]? = some (.ftab v [.r, .r] n ys (rowsV rs))) : RowsA H v rs ∧ n = rs.length := FRow.rows (h.ft i hi).1 (h.ft i hi).2
theorem LX.rowsT {c0 : Option Nat} {H0 H : AH} {L : List Ix} {v : Value} {n : Nat} {ys : List Value} {rs : List (List Int × List Int)} (h : LX c0 H0 H L) (i : Nat) (hi : L[i]? = some (.tab v [.r, .r] n ys (rowsV rs))) : RowsA H v rs ∧ n = rs.length := FRow.rows (h.tb i hi).1 (h.tb i hi).2
/-- An empty slice that was made is a table. -/
theorem LX.tab0 {c : Option Nat} {H0 H : AH} {L : List Ix} {b : Nat} (h : LX c H0 H L) (i : Nat) (hi : L[i]? = some (.own (.box b []))) (ks : List CK) (s : Nat) (hs : ks.length = s) : LX c H0 H (L.set i (.tab (.slice (some ⟨b, 0, none⟩) 0 s) ks 0 [] [])) := by
  subst hs
  obtain ⟨B, h⟩ := h
  exact ⟨B, h.upd i hi (Nat.le_refl _) (fun _ _ _ => rfl) ⟨⟨by simp, .inr ⟨b, 0, [], rfl, h.ok i _ hi, by simp, fun j y hy => by simp at hy⟩, fun i c k y hi => by omega, fun y hy => by simp at hy⟩, rfl⟩ fun g hg => .inl (by simp [Ix.bs, blkOf] at hg; exact hg.symm)⟩
/-- An element of a table that is only read: its rows, held as rows that are only read. -/
theorem LX.elem {c0 : Option Nat} {H0 H : AH} {L : List Ix} {v : Value} {n : Nat} {xs : List Value} {rs : List (List Int × List Int)} {k : Nat} (q : LX c0 H0 H L) (i : Nat) (hi : L[i]? = some (.ftab v [.r, .r] n xs (rowsV rs))) (hk : k < rs.length) :
    ∃ b o cs p p', v = .slice (some ⟨b, o, none⟩) n 2 ∧ Go.Proofs.Ytmlimgdpcoloiaa.AM.rd H b = some cs ∧ cs[o + k * 2]? = some p ∧ cs[o + k * 2 + 1]? = some p' ∧ LX c0 H0 H (.fro p rs[k].1 :: .fro p' rs[k].2 :: L) := by
  obtain ⟨B, h⟩ := q
  obtain ⟨t1, t2⟩ := h.ok i _ hi
  have hn : n = rs.length := (FRow.rows t1.fr t2).2
  have hl := t1.fr.len
  simp only [List.length_cons, List.length_nil] at hl
  rcases t1.fr.row with ⟨_, e⟩ | ⟨b, o, cs, e, h2, h3, h4⟩
  · omega
  · obtain ⟨g1, g2⟩ := rowsV_get hk
    have e0 := List.getElem?_eq_getElem (l := xs) (i := k * 2) (by omega)
    have e1 := List.getElem?_eq_getElem (l := xs) (i := k * 2 + 1) (by omega)
    have k0 := t1.fr.ok k 0 .r (xs[k * 2]'(by omega)) (by omega) rfl e0
    have k1 := t1.fr.ok k 1 .r _ (by omega) rfl e1
    rw [← t2] at g1 g2
    simp only [cvs, List.getElem?_map, e0, e1, Option.map_some, cv_row k0.1, cv_row k1.1, Option.some.injEq, CV.r.injEq] at g1 g2
    refine ⟨b, o, cs, _, _, by rw [e]; rfl, h2, h4 _ _ e0, by rw [Nat.add_assoc]; exact h4 _ _ e1, B, ?_⟩
    have m0 : ∀ g, blkOf (xs[k * 2]'(by omega)) = some g → B g := fun g hg => t1.base g (.inr ⟨_, List.getElem_mem _, hg⟩)
    have m1 : ∀ g, blkOf (xs[k * 2 + 1]'(by omega)) = some g → B g := fun g hg => t1.base g (.inr ⟨_, List.getElem_mem _, hg⟩)
    have h5 : LB B c0 H0 H (.fro _ rs[k].2 :: L) := h.add (x := .fro (xs[k * 2 + 1]'(by omega)) rs[k].2) (Nat.le_refl _) (fun b hb _ => rfl) h.cur ⟨by rw [← g2]; exact k1.1, m1⟩ fun b hb => hb.elim
    exact h5.add (x := .fro (xs[k * 2]'(by omega)) rs[k].1) (Nat.le_refl _) (fun b hb _ => rfl) h.cur ⟨by rw [← g1]; exact k0.1, m0⟩ fun b hb => hb.elim

theorem LX.elemA {c0 : Option Nat} {H0 H : AH} {L : List Ix} {a : Option Addr} {n c : Nat} {xs : List Value} {rs : List (List Int × List Int)} {k : Nat} (q : LX c0 H0 H L) (i : Nat) (hi : L[i]? = some (.ftab (.slice a n c) [.r, .r] n xs (rowsV rs))) (hk : k < rs.length) :
    ∃ b o cs a1 c1 a2 c2, aIndexAddr Try.prog 39 (.slice a n c) (.int .i64 k) = some (.pointer (some ⟨b, o + k * 2, none⟩)) ∧ Go.Proofs.Ytmlimgdpcoloiaa.AM.rd H b = some cs ∧ cs[o + k * 2]? = some (.slice a1 rs[k].1.length c1) ∧ cs[o + k * 2 + 1]? = some (.slice a2 rs[k].2.length c2) ∧
      LX c0 H0 H (.fro (.slice a1 rs[k].1.length c1) rs[k].1 :: .fro (.slice a2 rs[k].2.length c2) rs[k].2 :: L) := by
  obtain ⟨b, o, cs, p, p', e, h1, h2, h3, h4⟩ := q.elem i hi hk
  have hn := (q.rowsF i hi).2
  injection e with e1 e2 e3
  subst e1; subst e3
  obtain ⟨a1, c1, e1, _⟩ := (h4.ri 0 rfl).op
  obtain ⟨a2, c2, e2, _⟩ := (h4.ri 1 rfl).op
  subst e1; subst e2
  exact ⟨b, o, cs, a1, c1, a2, c2, by rw [ix39, if_pos (by omega)]; simp, h1, h2, h3, h4⟩

theorem IntRow.tl {H : AH} {a : Option Addr} {n c : Nat} {l : List Int} (h : IntRow H (.slice a n c) l) (h1 : 1 ≤ l.length) : ∃ a' c', aSlice Try.prog 22 (.slice a n c) (some (.int .i64 1)) none = some (.slice a' l.tail.length c') ∧ IntRow H (.slice a' l.tail.length c') l.tail := by
  have hn : n = l.length := by
    obtain ⟨a', c', e, _⟩ := h.op
    injection e
  subst hn
  obtain ⟨t, y, e1, e2, -⟩ := IntRow.sl (P := Try.prog) (t := 22) (e := 3) (lo := some (.int .i64 1)) (hi := none) (x := 1) (y := l.length) Try.underlying22 (by kernel_rfl) h rfl rfl h1 (Nat.le_refl _)
  have e3 : (l.drop 1).take (l.length - 1) = l.tail := by rw [List.drop_one, List.take_of_length_le (by simp)]
  have e4 : l.length - 1 = l.tail.length := by simp
  rw [e3, e4] at e2
  rw [e4] at e1
  exact ⟨t, y, e1, e2⟩

theorem RowsA.tk {H : AH} {a : Option Addr} {n c : Nat} {rs : List (List Int × List Int)} {k : Nat} (h : RowsA H (.slice a n c) rs) (hk : k ≤ rs.length) (h0 : 0 < rs.length) : ∃ a' c', aSlice Try.prog 39 (.slice a n c) none (some (.int .i64 k)) = some (.slice a' k c') ∧ RowsA H (.slice a' k c') (rs.take k) := by
  obtain ⟨a2, c2, e, g⟩ := h
  injection e with e1 e2 e3
  subst e1; subst e2; subst e3
  have hl : (rs.take k).length = k := by simp; omega
  obtain ⟨b, o, cs, rfl, rfl, h1, h2⟩ := g h0
  refine ⟨some ⟨b, o, none⟩, 2, ?_, some ⟨b, o, none⟩, 2, by rw [hl], fun hp => ⟨b, o, cs, rfl, rfl, h1, fun i hi => ?_⟩⟩
  · rw [slc_eq (e := 26) (s := 2) (by kernel_rfl) (by kernel_rfl), optInt_none, optInt_some, slc_some, if_pos (by omega)]
    simp
  · obtain ⟨p, q, g1, g2, g3, g4⟩ := h2 i (by omega)
    exact ⟨p, q, g1, g2, by simpa using g3, by simpa using g4⟩

def flatD (rs : List (List Int × List Int)) : List Int := rs.flatMap (·.2)
def joinR (rs : List (List Int × List Int)) (sh : List Int) : (List Int × List Int) × Int := if arrOk ((rs.length : Int) :: sh) (flatD rs) then (((rs.length : Int) :: sh, flatD rs), 0) else (([], []), 6)
theorem flatD_take {rs : List (List Int × List Int)} {i : Nat} (h : i < rs.length) : flatD (rs.take (i + 1)) = flatD (rs.take i) ++ rs[i].2 := by
  rw [List.take_succ_eq_append_getElem h]; simp only [flatD, List.flatMap_append, List.flatMap_cons, List.flatMap_nil, List.append_nil]
theorem flatD_take_le {rs : List (List Int × List Int)} {i : Nat} : (flatD (rs.take i)).length ≤ (flatD rs).length := by
  have : flatD rs = flatD (rs.take i) ++ flatD (rs.drop i) := by
    unfold flatD; rw [← List.flatMap_append, List.take_append_drop]
  rw [this]; simp

theorem joined_ok {H : AH} {v w : Value} {rs : List (List Int × List Int)} {sh : List Int} (r : RowsA H v rs) (h : IntRow H w sh) (l1 : rs.length ≤ 1048576) (l2 : sh.length ≤ 1048575) (l3 : (flatD rs).length ≤ 1048576) : CallsA Try.prog 68 #[v, w] H fun r H' => Ans1 H H' r (joinR rs sh) := by
  have r0 := r
  obtain ⟨ra, rc, rfl, -⟩ := r0
  obtain ⟨wa, wc, rfl, -⟩ := h.op
  have q := (LX.nil (H := H))
  refine w68 ?_
  unfold k68
  simp -implicitDefEqProofs only [kz, kk0, kk1, kk2, kk3, ↓two_true, ↓two_false, mkv, aggAt, Nat.reduceLeDiff, Nat.reduceSub, Nat.reduceMul, implies_true, Nat.reduceEqDiff, reduceIte, Nat.reduceAdd, Nat.reduceBEq, reduceCtorEq, al26, ap22_22, bd26, bs22_1, fa26_1, ix39, ld22, ld26, ln39, st22, st26]
  refine st_box q fun H1 q1 => ?_
  simp -implicitDefEqProofs only [kz, kk0, kk1, kk2, kk3, ↓two_true, ↓two_false, mkv, aggAt, Nat.reduceLeDiff, Nat.reduceSub, Nat.reduceMul, implies_true, Nat.reduceEqDiff, reduceIte, Nat.reduceAdd, Nat.reduceBEq, reduceCtorEq, al26, ap22_22, bd26, bs22_1, fa26_1, ix39, ld22, ld26, ln39, st22, st26, q1.rd 0 rfl]
  refine st_lit [_] rfl rfl q1 fun H2 q2 => ?_
  simp -implicitDefEqProofs only [kz, kk0, kk1, kk2, kk3, ↓two_true, ↓two_false, mkv, aggAt, Nat.reduceLeDiff, Nat.reduceSub, Nat.reduceMul, implies_true, Nat.reduceEqDiff, reduceIte, Nat.reduceAdd, Nat.reduceBEq, reduceCtorEq, al26, ap22_22, bd26, bs22_1, fa26_1, ix39, ld22, ld26, ln39, st22, st26, q2.rd 1 rfl]
  refine st_app q2 0 rfl (h.ext q2.ext) (by (try simp only [List.length_cons, List.length_nil, List.length_append, List.length_replicate, List.length_map, List.length_take, List.length_drop]); omega) fun a1 c1 H3 q3 => ?_
  simp only [List.set_cons_zero, List.set_cons_succ, List.length_nil, List.length_cons, Nat.zero_add, List.nil_append] at q3 ⊢
  simp -implicitDefEqProofs only [kz, kk0, kk1, kk2, kk3, ↓two_true, ↓two_false, mkv, aggAt, Nat.reduceLeDiff, Nat.reduceSub, Nat.reduceMul, implies_true, Nat.reduceEqDiff, reduceIte, Nat.reduceAdd, Nat.reduceBEq, reduceCtorEq, al26, ap22_22, bd26, bs22_1, fa26_1, ix39, ld22, ld26, ln39, st22, st26, q3.rd 1 rfl]
  refine st_box q3 fun H4 q4 => ?_
  simp -implicitDefEqProofs only [kz, kk0, kk1, kk2, kk3, ↓two_true, ↓two_false, mkv, aggAt, Nat.reduceLeDiff, Nat.reduceSub, Nat.reduceMul, implies_true, Nat.reduceEqDiff, reduceIte, Nat.reduceAdd, Nat.reduceBEq, reduceCtorEq, al26, ap22_22, bd26, bs22_1, fa26_1, ix39, ld22, ld26, ln39, st22, st26, q4.rd 0 rfl, q4.rd 2 rfl]
  refine st_set q4 0 rfl fun H5 q5 => ?_
  simp only [List.set_cons_zero, List.set_cons_succ] at q5
  simp -implicitDefEqProofs only [kz, kk0, kk1, kk2, kk3, ↓two_true, ↓two_false, mkv, aggAt, Nat.reduceLeDiff, Nat.reduceSub, Nat.reduceMul, implies_true, Nat.reduceEqDiff, reduceIte, Nat.reduceAdd, Nat.reduceBEq, reduceCtorEq, al26, ap22_22, bd26, bs22_1, fa26_1, ix39, ld22, ld26, ln39, st22, st26, q5.rd 0 rfl, q5.rd 2 rfl]
  have q6 := q5.nil0
  refine rW_loopQ (σ := Nat × Option Addr × Nat) q6 [4, 5, 6, 15, 16] (fun x tm => tm 17 = .int .i64 x.1 ∧ x.1 ≤ rs.length) (fun x L => (L.set 1 (.own (.box H3.length [.slice a1 (1 + sh.length) c1, .slice x.2.1 (flatD (rs.take x.1)).length x.2.2]))).set 0 (.own (.row (.slice x.2.1 (flatD (rs.take x.1)).length x.2.2) (flatD (rs.take x.1))))) (fun x => rs.length - x.1) (0, none, 0) ⟨rfl, Nat.zero_le _⟩ rfl ?_
  rintro ⟨i, a, c⟩ tm1 H6 ⟨h1, h2, h3, h4, h5, -⟩ ⟨k1, hi⟩ q7
  simp -implicitDefEqProofs only [kz, kk0, kk1, kk2, kk3, ↓two_true, ↓two_false, mkv, aggAt, Nat.reduceLeDiff, Nat.reduceSub, Nat.reduceMul, implies_true, Nat.reduceEqDiff, reduceIte, Nat.reduceAdd, Nat.reduceBEq, reduceCtorEq, al26, ap22_22, bd26, bs22_1, fa26_1, ix39, ld22, ld26, ln39, st22, st26] at h1 h2 h3 h4 h5
  simp only [List.set_cons_zero, List.set_cons_succ] at q7
  simp only at k1 hi
  simp -implicitDefEqProofs only [kz, kk0, kk1, kk2, kk3, ↓two_true, ↓two_false, mkv, aggAt, Nat.reduceLeDiff, Nat.reduceSub, Nat.reduceMul, implies_true, Nat.reduceEqDiff, reduceIte, Nat.reduceAdd, Nat.reduceBEq, reduceCtorEq, al26, ap22_22, bd26, bs22_1, fa26_1, ix39, ld22, ld26, ln39, st22, st26, h1, h2, h3, h4, h5, k1, q7.rd 1 rfl, q7.rd 3 rfl]
  refine two_intro (fun u1 => ?_) (fun u1 => ?_)
  ·
    have hc' : i < rs.length := by simpa using u1
    have hstep := flatD_take hc'
    have hle := flatD_take_le (rs := rs) (i := i + 1)
    rw [hstep, List.length_append] at hle
    obtain ⟨b1, o1, cs1, p1, p2, ei1, fr1, fc1, fc2, fi1, fi2⟩ := ixR r hc'
    obtain ⟨a2, c2, rfl, -⟩ := fi1.op
    obtain ⟨a3, c3, rfl, -⟩ := fi2.op
    try simp -implicitDefEqProofs only [kz, kk0, kk1, kk2, kk3, ↓two_true, ↓two_false, mkv, aggAt, Nat.reduceLeDiff, Nat.reduceSub, Nat.reduceMul, implies_true, Nat.reduceEqDiff, reduceIte, Nat.reduceAdd, Nat.reduceBEq, reduceCtorEq, al26, ap22_22, bd26, bs22_1, fa26_1, ix39, ld22, ld26, ln39, st22, st26, ei1, rd_ext fr1 q7.ext, fc1, fc2, ldA2 fc1 fc2, h1, h2, h3, h4, h5, k1, q7.rd 1 rfl, q7.rd 3 rfl]
    refine st_box q7 fun H7 q8 => ?_
    simp -implicitDefEqProofs only [kz, kk0, kk1, kk2, kk3, ↓two_true, ↓two_false, mkv, aggAt, Nat.reduceLeDiff, Nat.reduceSub, Nat.reduceMul, implies_true, Nat.reduceEqDiff, reduceIte, Nat.reduceAdd, Nat.reduceBEq, reduceCtorEq, al26, ap22_22, bd26, bs22_1, fa26_1, ix39, ld22, ld26, ln39, st22, st26, ei1, rd_ext fr1 q8.ext, fc1, fc2, ldA2 fc1 fc2, h1, h2, h3, h4, h5, k1, q8.rd 0 rfl, q8.rd 2 rfl, q8.rd 4 rfl]
    refine st_set q8 0 rfl fun H8 q9 => ?_
    simp only [List.set_cons_zero, List.set_cons_succ] at q9
    simp -implicitDefEqProofs only [kz, kk0, kk1, kk2, kk3, ↓two_true, ↓two_false, mkv, aggAt, Nat.reduceLeDiff, Nat.reduceSub, Nat.reduceMul, implies_true, Nat.reduceEqDiff, reduceIte, Nat.reduceAdd, Nat.reduceBEq, reduceCtorEq, al26, ap22_22, bd26, bs22_1, fa26_1, ix39, ld22, ld26, ln39, st22, st26, ei1, rd_ext fr1 q9.ext, fc1, fc2, ldA2 fc1 fc2, h1, h2, h3, h4, h5, k1, q9.rd 0 rfl, q9.rd 2 rfl, q9.rd 4 rfl]
    refine st_app q9 1 rfl (fi2.ext q9.ext) (by (try simp only [List.length_cons, List.length_nil, List.length_append, List.length_replicate, List.length_map, List.length_take, List.length_drop]); omega) fun a4 c4 H9 q10 => ?_
    simp only [List.set_cons_zero, List.set_cons_succ, List.length_nil, List.length_cons, Nat.zero_add, List.nil_append] at q10 ⊢
    simp -implicitDefEqProofs only [kz, kk0, kk1, kk2, kk3, ↓two_true, ↓two_false, mkv, aggAt, Nat.reduceLeDiff, Nat.reduceSub, Nat.reduceMul, implies_true, Nat.reduceEqDiff, reduceIte, Nat.reduceAdd, Nat.reduceBEq, reduceCtorEq, al26, ap22_22, bd26, bs22_1, fa26_1, ix39, ld22, ld26, ln39, st22, st26, ei1, rd_ext fr1 q10.ext, fc1, fc2, ldA2 fc1 fc2, h1, h2, h3, h4, h5, k1, q10.rd 0 rfl, q10.rd 2 rfl, q10.rd 4 rfl]
    refine st_set q10 2 rfl fun H10 q11 => ?_
    simp only [List.set_cons_zero, List.set_cons_succ] at q11
    have w1 := IntWalk.i64_in (↑i + 1) (by omega)
    simp -implicitDefEqProofs only [kz, kk0, kk1, kk2, kk3, ↓two_true, ↓two_false, mkv, aggAt, Nat.reduceLeDiff, Nat.reduceSub, Nat.reduceMul, implies_true, Nat.reduceEqDiff, reduceIte, Nat.reduceAdd, Nat.reduceBEq, reduceCtorEq, al26, ap22_22, bd26, bs22_1, fa26_1, ix39, ld22, ld26, ln39, st22, st26, ei1, rd_ext fr1 q11.ext, fc1, fc2, ldA2 fc1 fc2, w1, h1, h2, h3, h4, h5, k1, q11.rd 0 rfl, q11.rd 2 rfl, q11.rd 4 rfl]
    -- back loop1
    refine ⟨(i + 1, a4, c4), (by simp only; omega), ⟨rfl, rfl, rfl, rfl, rfl, trivial⟩, ⟨by simp, hc'⟩, ?_⟩
    simp only [List.set_cons_zero, List.set_cons_succ, hstep, List.length_append]
    exact q11.pick [1, 2, 3, 4] _ rfl (by decide)
  ·
    have hil : i = rs.length := Nat.le_antisymm hi (Nat.not_lt.1 (by simpa using u1))
    subst hil
    rw [List.take_length] at q7 ⊢
    try simp -implicitDefEqProofs only [kz, kk0, kk1, kk2, kk3, ↓two_true, ↓two_false, mkv, aggAt, Nat.reduceLeDiff, Nat.reduceSub, Nat.reduceMul, implies_true, Nat.reduceEqDiff, reduceIte, Nat.reduceAdd, Nat.reduceBEq, reduceCtorEq, al26, ap22_22, bd26, bs22_1, fa26_1, ix39, ld22, ld26, ln39, st22, st26, h1, h2, h3, h4, h5, k1, q7.rd 1 rfl, q7.rd 3 rfl]
    refine (implOk_ar (q7.ar 2 0 rfl rfl (by (try simp only [List.length_cons, List.length_nil, List.length_append, List.length_replicate, List.length_map, List.length_take, List.length_drop]); omega) (by (try simp only [List.length_cons, List.length_nil, List.length_append, List.length_replicate, List.length_map, List.length_take, List.length_drop]); omega))).mono ?_
    rintro _ H11 ⟨rfl, he1⟩
    have q12 := q7.extd he1
    simp -implicitDefEqProofs only [kz, kk0, kk1, kk2, kk3, ↓two_true, ↓two_false, mkv, aggAt, Nat.reduceLeDiff, Nat.reduceSub, Nat.reduceMul, implies_true, Nat.reduceEqDiff, reduceIte, Nat.reduceAdd, Nat.reduceBEq, reduceCtorEq, al26, ap22_22, bd26, bs22_1, fa26_1, ix39, ld22, ld26, ln39, st22, st26, h1, h2, h3, h4, h5, k1, q12.rd 1 rfl, q12.rd 3 rfl]
    refine two_intro (fun u2 => ?_) (fun u2 => ?_)
    ·
      try simp -implicitDefEqProofs only [kz, kk0, kk1, kk2, kk3, ↓two_true, ↓two_false, mkv, aggAt, Nat.reduceLeDiff, Nat.reduceSub, Nat.reduceMul, implies_true, Nat.reduceEqDiff, reduceIte, Nat.reduceAdd, Nat.reduceBEq, reduceCtorEq, al26, ap22_22, bd26, bs22_1, fa26_1, ix39, ld22, ld26, ln39, st22, st26, h1, h2, h3, h4, h5, k1, q12.rd 1 rfl, q12.rd 3 rfl]
      refine st_set q12 3 rfl fun H12 q13 => ?_
      simp only [List.set_cons_zero, List.set_cons_succ] at q13
      simp -implicitDefEqProofs only [kz, kk0, kk1, kk2, kk3, ↓two_true, ↓two_false, mkv, aggAt, Nat.reduceLeDiff, Nat.reduceSub, Nat.reduceMul, implies_true, Nat.reduceEqDiff, reduceIte, Nat.reduceAdd, Nat.reduceBEq, reduceCtorEq, al26, ap22_22, bd26, bs22_1, fa26_1, ix39, ld22, ld26, ln39, st22, st26, h1, h2, h3, h4, h5, k1, q13.rd 1 rfl, q13.rd 3 rfl]
      -- end1
      exact q13.err (by unfold joinR; exact if_neg (by simpa using u2))
    ·
      try simp -implicitDefEqProofs only [kz, kk0, kk1, kk2, kk3, ↓two_true, ↓two_false, mkv, aggAt, Nat.reduceLeDiff, Nat.reduceSub, Nat.reduceMul, implies_true, Nat.reduceEqDiff, reduceIte, Nat.reduceAdd, Nat.reduceBEq, reduceCtorEq, al26, ap22_22, bd26, bs22_1, fa26_1, ix39, ld22, ld26, ln39, st22, st26, h1, h2, h3, h4, h5, k1, q12.rd 1 rfl, q12.rd 3 rfl]
      refine st_set q12 3 rfl fun H13 q14 => ?_
      simp only [List.set_cons_zero, List.set_cons_succ] at q14
      simp -implicitDefEqProofs only [kz, kk0, kk1, kk2, kk3, ↓two_true, ↓two_false, mkv, aggAt, Nat.reduceLeDiff, Nat.reduceSub, Nat.reduceMul, implies_true, Nat.reduceEqDiff, reduceIte, Nat.reduceAdd, Nat.reduceBEq, reduceCtorEq, al26, ap22_22, bd26, bs22_1, fa26_1, ix39, ld22, ld26, ln39, st22, st26, h1, h2, h3, h4, h5, k1, q14.rd 1 rfl, q14.rd 3 rfl]
      -- end2
      exact q14.ans 2 0 (by decide) rfl rfl (by unfold joinR; exact if_pos (by simpa using u2))

theorem firstC_cons {x : Int} {l : List Int} : firstC (x :: l) = if x = 0 then firstC l else x := by
  by_cases h : x = 0
  · rw [if_pos h, ← List.singleton_append, firstC_app (by simpa using h)]
  · rw [if_neg h]; unfold firstC; simp [h]
/-- The first code that is not nought. -/
theorem firstC_at {α : Type} {l : List α} {f : α → Int} {i : Nat} (hi : i < l.length) (hz : ∀ y ∈ l.take i, f y = 0) (hc : f l[i] ≠ 0) : firstC (l.map f) = f l[i] := by
  have e : l = l.take i ++ l[i] :: l.drop (i + 1) := by rw [← List.drop_eq_getElem_cons hi, List.take_append_drop]
  have e2 : l.map f = (l.take i).map f ++ f l[i] :: (l.drop (i + 1)).map f := by
    rw [← List.map_cons, ← List.map_append, ← e]
  rw [e2, firstC_app (by intro c hc; obtain ⟨y, hy, rfl⟩ := List.mem_map.1 hc; exact hz y hy), firstC_cons, if_neg hc]
theorem firstC_no {α : Type} {l : List α} {f : α → Int} (hz : ∀ y ∈ l, f y = 0) : firstC (l.map f) = 0 := by
  have := firstC_app (l := l.map f) (m := []) (by intro c hc; obtain ⟨y, hy, rfl⟩ := List.mem_map.1 hc; exact hz y hy)
  rw [List.append_nil] at this
  rw [this]; rfl
theorem mem_take_succ {α : Type} {l : List α} {i : Nat} (hi : i < l.length) {u : α} (hu : u ∈ l.take (i + 1)) : u ∈ l.take i ∨ u = l[i] := by
  rw [List.take_succ_eq_append_getElem hi] at hu
  rcases List.mem_append.1 hu with h | h
  · exact .inl h
  · exact .inr (List.mem_singleton.1 h)
theorem equalI_ok {H : AH} {v w : Value} {l m : List Int} (hv : IntRow H v l) (hw : IntRow H w m) (hl : l.length ≤ 1048576) : CallsA Try.prog 174 #[v, w] H fun r H' => r = .bool (l == m) ∧ H' = H := by
  obtain ⟨va, vc, rfl, -⟩ := hv.op
  obtain ⟨wa, wc, rfl, -⟩ := hw.op
  have q := (LX.nil (H := H))
  refine w174 ?_
  unfold k174
  simp -implicitDefEqProofs only [kz, kk0, kk1, kk2, kk3, ↓two_true, ↓two_false, mkv, aggAt, Nat.reduceLeDiff, Nat.reduceSub, Nat.reduceMul, implies_true, Nat.reduceEqDiff, reduceIte, Nat.reduceAdd, Nat.reduceBEq, reduceCtorEq, ix22, ld3, ln22]
  refine two_intro (fun u1 => ?_) (fun u1 => ?_)
  ·
    try simp -implicitDefEqProofs only [kz, kk0, kk1, kk2, kk3, ↓two_true, ↓two_false, mkv, aggAt, Nat.reduceLeDiff, Nat.reduceSub, Nat.reduceMul, implies_true, Nat.reduceEqDiff, reduceIte, Nat.reduceAdd, Nat.reduceBEq, reduceCtorEq, ix22, ld3, ln22]
    -- end1
    rw [show (l == m) = false by rw [beq_eq_false_iff_ne]; rintro rfl; simp at u1]
  ·
    have hlen : l.length = m.length := by simp at u1; omega
    try simp -implicitDefEqProofs only [kz, kk0, kk1, kk2, kk3, ↓two_true, ↓two_false, mkv, aggAt, Nat.reduceLeDiff, Nat.reduceSub, Nat.reduceMul, implies_true, Nat.reduceEqDiff, reduceIte, Nat.reduceAdd, Nat.reduceBEq, reduceCtorEq, ix22, ld3, ln22]
    refine rW_loopH (σ := Nat) [0, 1, 12] (fun x tm => tm 13 = .int .i64 x ∧ x ≤ l.length ∧ ∀ j, j < x → l[j]? = m[j]?) (fun x => l.length - x) 0 ⟨rfl, Nat.zero_le _, fun j hj => by omega⟩ ?_
    rintro i tm1 ⟨h1, h2, h3, -⟩ ⟨ki, hi, hn⟩
    simp -implicitDefEqProofs only [kz, kk0, kk1, kk2, kk3, ↓two_true, ↓two_false, mkv, aggAt, Nat.reduceLeDiff, Nat.reduceSub, Nat.reduceMul, implies_true, Nat.reduceEqDiff, reduceIte, Nat.reduceAdd, Nat.reduceBEq, reduceCtorEq, ix22, ld3, ln22] at h1 h2 h3
    have wi := IntWalk.i64_in ((i : Int) + 1) (by omega)
    simp -implicitDefEqProofs only [kz, kk0, kk1, kk2, kk3, ↓two_true, ↓two_false, mkv, aggAt, Nat.reduceLeDiff, Nat.reduceSub, Nat.reduceMul, implies_true, Nat.reduceEqDiff, reduceIte, Nat.reduceAdd, Nat.reduceBEq, reduceCtorEq, ix22, ld3, ln22, h1, h2, h3, ki, wi]
    refine two_intro (fun u2 => ?_) (fun u2 => ?_)
    ·
      have hc : i < l.length := by simpa using u2
      have hc2 : i < m.length := by omega
      obtain ⟨b1, o1, cs1, ei1, fr1, fc1⟩ := ixI (hv.ext q.ext) (i := i) hc
      obtain ⟨b2, o2, cs2, ei2, fr2, fc2⟩ := ixI (hw.ext q.ext) (i := i) hc2
      try simp -implicitDefEqProofs only [kz, kk0, kk1, kk2, kk3, ↓two_true, ↓two_false, mkv, aggAt, Nat.reduceLeDiff, Nat.reduceSub, Nat.reduceMul, implies_true, Nat.reduceEqDiff, reduceIte, Nat.reduceAdd, Nat.reduceBEq, reduceCtorEq, ix22, ld3, ln22, ei1, fr1, fc1, ei2, fr2, fc2, h1, h2, h3, ki, wi]
      refine two_intro (fun u3 => ?_) (fun u3 => ?_)
      ·
        have hne : l[i] ≠ m[i] := by simpa using u3
        try simp -implicitDefEqProofs only [kz, kk0, kk1, kk2, kk3, ↓two_true, ↓two_false, mkv, aggAt, Nat.reduceLeDiff, Nat.reduceSub, Nat.reduceMul, implies_true, Nat.reduceEqDiff, reduceIte, Nat.reduceAdd, Nat.reduceBEq, reduceCtorEq, ix22, ld3, ln22, ei1, fr1, fc1, ei2, fr2, fc2, h1, h2, h3, ki, wi]
        -- end2
        rw [show (l == m) = false by rw [beq_eq_false_iff_ne]; rintro rfl; exact hne rfl]
      ·
        have heq : l[i] = m[i] := by simpa using u3
        try simp -implicitDefEqProofs only [kz, kk0, kk1, kk2, kk3, ↓two_true, ↓two_false, mkv, aggAt, Nat.reduceLeDiff, Nat.reduceSub, Nat.reduceMul, implies_true, Nat.reduceEqDiff, reduceIte, Nat.reduceAdd, Nat.reduceBEq, reduceCtorEq, ix22, ld3, ln22, ei1, fr1, fc1, ei2, fr2, fc2, h1, h2, h3, ki, wi]
        -- back loop1
        exact ⟨i + 1, (by omega), ⟨rfl, rfl, rfl, trivial⟩, ⟨by first | rfl | simp, hc, fun j hj => by
          rcases Nat.lt_or_ge j i with h | h
          · exact hn j h
          · have : j = i := (by omega)
            subst this
            rw [List.getElem?_eq_getElem hc, List.getElem?_eq_getElem hc2, heq]⟩⟩
    ·
      try simp -implicitDefEqProofs only [kz, kk0, kk1, kk2, kk3, ↓two_true, ↓two_false, mkv, aggAt, Nat.reduceLeDiff, Nat.reduceSub, Nat.reduceMul, implies_true, Nat.reduceEqDiff, reduceIte, Nat.reduceAdd, Nat.reduceBEq, reduceCtorEq, ix22, ld3, ln22, h1, h2, h3, ki, wi]
      -- end3
      rw [show (l == m) = true by
        rw [beq_iff_eq]
        refine List.ext_getElem hlen fun j h1 h2 => ?_
        have := hn j (by have : ¬ i < l.length := (by simpa using u2); omega)
        rw [List.getElem?_eq_getElem h1, List.getElem?_eq_getElem h2] at this
        exact Option.some.inj this]

theorem l2Same_ok {H : AH} {v w : Value} {l m : List Int} (hv : IntRow H v l) (hw : IntRow H w m) (hl : l.length ≤ 1048576) : CallsA Try.prog 205 #[v, w] H fun r H' => r = .bool (l == m) ∧ H' = H := by
  obtain ⟨va, vc, rfl, -⟩ := hv.op
  obtain ⟨wa, wc, rfl, -⟩ := hw.op
  have q := (LX.nil (H := H))
  refine w205 ?_
  unfold k205
  simp -implicitDefEqProofs only [kz, kk0, kk1, kk2, kk3, ↓two_true, ↓two_false, mkv, aggAt, Nat.reduceLeDiff, Nat.reduceSub, Nat.reduceMul, implies_true, Nat.reduceEqDiff, reduceIte, Nat.reduceAdd, Nat.reduceBEq, reduceCtorEq, ix22, ld3, ln22]
  refine two_intro (fun u1 => ?_) (fun u1 => ?_)
  ·
    try simp -implicitDefEqProofs only [kz, kk0, kk1, kk2, kk3, ↓two_true, ↓two_false, mkv, aggAt, Nat.reduceLeDiff, Nat.reduceSub, Nat.reduceMul, implies_true, Nat.reduceEqDiff, reduceIte, Nat.reduceAdd, Nat.reduceBEq, reduceCtorEq, ix22, ld3, ln22]
    -- end1
    rw [show (l == m) = false by rw [beq_eq_false_iff_ne]; rintro rfl; simp at u1]
  ·
    have hlen : l.length = m.length := by simp at u1; omega
    try simp -implicitDefEqProofs only [kz, kk0, kk1, kk2, kk3, ↓two_true, ↓two_false, mkv, aggAt, Nat.reduceLeDiff, Nat.reduceSub, Nat.reduceMul, implies_true, Nat.reduceEqDiff, reduceIte, Nat.reduceAdd, Nat.reduceBEq, reduceCtorEq, ix22, ld3, ln22]
    refine rW_loopH (σ := Nat) [0, 1] (fun x tm => tm 5 = .int .i64 x ∧ x ≤ l.length ∧ ∀ j, j < x → l[j]? = m[j]?) (fun x => l.length - x) 0 ⟨rfl, Nat.zero_le _, fun j hj => by omega⟩ ?_
    rintro i tm1 ⟨h1, h2, -⟩ ⟨ki, hi, hn⟩
    simp -implicitDefEqProofs only [kz, kk0, kk1, kk2, kk3, ↓two_true, ↓two_false, mkv, aggAt, Nat.reduceLeDiff, Nat.reduceSub, Nat.reduceMul, implies_true, Nat.reduceEqDiff, reduceIte, Nat.reduceAdd, Nat.reduceBEq, reduceCtorEq, ix22, ld3, ln22] at h1 h2
    have wi := IntWalk.i64_in ((i : Int) + 1) (by omega)
    simp -implicitDefEqProofs only [kz, kk0, kk1, kk2, kk3, ↓two_true, ↓two_false, mkv, aggAt, Nat.reduceLeDiff, Nat.reduceSub, Nat.reduceMul, implies_true, Nat.reduceEqDiff, reduceIte, Nat.reduceAdd, Nat.reduceBEq, reduceCtorEq, ix22, ld3, ln22, h1, h2, ki, wi]
    refine two_intro (fun u2 => ?_) (fun u2 => ?_)
    ·
      have hc : i < l.length := by simpa using u2
      have hc2 : i < m.length := by omega
      obtain ⟨b1, o1, cs1, ei1, fr1, fc1⟩ := ixI (hv.ext q.ext) (i := i) hc
      obtain ⟨b2, o2, cs2, ei2, fr2, fc2⟩ := ixI (hw.ext q.ext) (i := i) hc2
      try simp -implicitDefEqProofs only [kz, kk0, kk1, kk2, kk3, ↓two_true, ↓two_false, mkv, aggAt, Nat.reduceLeDiff, Nat.reduceSub, Nat.reduceMul, implies_true, Nat.reduceEqDiff, reduceIte, Nat.reduceAdd, Nat.reduceBEq, reduceCtorEq, ix22, ld3, ln22, ei1, fr1, fc1, ei2, fr2, fc2, h1, h2, ki, wi]
      refine two_intro (fun u3 => ?_) (fun u3 => ?_)
      ·
        have hne : l[i] ≠ m[i] := by simpa using u3
        try simp -implicitDefEqProofs only [kz, kk0, kk1, kk2, kk3, ↓two_true, ↓two_false, mkv, aggAt, Nat.reduceLeDiff, Nat.reduceSub, Nat.reduceMul, implies_true, Nat.reduceEqDiff, reduceIte, Nat.reduceAdd, Nat.reduceBEq, reduceCtorEq, ix22, ld3, ln22, ei1, fr1, fc1, ei2, fr2, fc2, h1, h2, ki, wi]
        -- end2
        rw [show (l == m) = false by rw [beq_eq_false_iff_ne]; rintro rfl; exact hne rfl]
      ·
        have heq : l[i] = m[i] := by simpa using u3
        try simp -implicitDefEqProofs only [kz, kk0, kk1, kk2, kk3, ↓two_true, ↓two_false, mkv, aggAt, Nat.reduceLeDiff, Nat.reduceSub, Nat.reduceMul, implies_true, Nat.reduceEqDiff, reduceIte, Nat.reduceAdd, Nat.reduceBEq, reduceCtorEq, ix22, ld3, ln22, ei1, fr1, fc1, ei2, fr2, fc2, h1, h2, ki, wi]
        -- back loop1
        exact ⟨i + 1, (by omega), ⟨rfl, rfl, trivial⟩, ⟨by first | rfl | simp, hc, fun j hj => by
          rcases Nat.lt_or_ge j i with h | h
          · exact hn j h
          · have : j = i := (by omega)
            subst this
            rw [List.getElem?_eq_getElem hc, List.getElem?_eq_getElem hc2, heq]⟩⟩
    ·
      try simp -implicitDefEqProofs only [kz, kk0, kk1, kk2, kk3, ↓two_true, ↓two_false, mkv, aggAt, Nat.reduceLeDiff, Nat.reduceSub, Nat.reduceMul, implies_true, Nat.reduceEqDiff, reduceIte, Nat.reduceAdd, Nat.reduceBEq, reduceCtorEq, ix22, ld3, ln22, h1, h2, ki, wi]
      -- end3
      rw [show (l == m) = true by
        rw [beq_iff_eq]
        refine List.ext_getElem hlen fun j h1 h2 => ?_
        have := hn j (by have : ¬ i < l.length := (by simpa using u2); omega)
        rw [List.getElem?_eq_getElem h1, List.getElem?_eq_getElem h2] at this
        exact Option.some.inj this]

def fitR (sa da sb db : List Int) : List Int × Int :=
  if (arrOk sa da && arrOk sb db) = true then (if sa.length = 0 then (sb, 0) else if sb.length = 0 then (sa, 0) else if sa.length ≠ sb.length then ([], 4) else if (sa == sb) = true then (sa, 0) else ([], 3)) else ([], 1)

theorem implFit_ok {H : AH} {pa qa pb qb : Value} {sa da sb db : List Int} (a : AR H pa qa sa da) (b : AR H pb qb sb db) : CallsA Try.prog 91 #[.agg #[pa, qa], .agg #[pb, qb]] H fun r H' => AnsR H H' r (fitR sa da sb db) := by
  have al := a.l1
  have bl := a.l2
  have al2 := b.l1
  have bl2 := b.l2
  obtain ⟨za, zc, zb, zd, rfl, rfl⟩ := a.o1
  obtain ⟨ya, yc, yb, yd, rfl, rfl⟩ := b.o1
  have q := (LX.nil (H := H))
  refine w91 ?_
  unfold k91
  simp -implicitDefEqProofs only [kz, kk0, kk1, kk2, kk3, ↓two_true, ↓two_false, mkv, aggAt, Nat.reduceLeDiff, Nat.reduceSub, Nat.reduceMul, implies_true, Nat.reduceEqDiff, reduceIte, Nat.reduceAdd, Nat.reduceBEq, reduceCtorEq, ap22_22, fa26_0, ld22, ld26, ln22]
  refine st_box q fun H1 q1 => ?_
  simp -implicitDefEqProofs only [kz, kk0, kk1, kk2, kk3, ↓two_true, ↓two_false, mkv, aggAt, Nat.reduceLeDiff, Nat.reduceSub, Nat.reduceMul, implies_true, Nat.reduceEqDiff, reduceIte, Nat.reduceAdd, Nat.reduceBEq, reduceCtorEq, ap22_22, fa26_0, ld22, ld26, ln22, q1.rd 0 rfl]
  refine st_box q1 fun H2 q2 => ?_
  simp -implicitDefEqProofs only [kz, kk0, kk1, kk2, kk3, ↓two_true, ↓two_false, mkv, aggAt, Nat.reduceLeDiff, Nat.reduceSub, Nat.reduceMul, implies_true, Nat.reduceEqDiff, reduceIte, Nat.reduceAdd, Nat.reduceBEq, reduceCtorEq, ap22_22, fa26_0, ld22, ld26, ln22, q2.rd 0 rfl, q2.rd 1 rfl]
  have q3 := q2.nil0
  refine st_app q3 0 rfl (a.os.ext q3.ext) (by (try simp only [List.length_cons, List.length_nil, List.length_append, List.length_replicate, List.length_map, List.length_take, List.length_drop]); omega) fun a1 c1 H3 q4 => ?_
  simp only [List.set_cons_zero, List.set_cons_succ, List.length_nil, List.length_cons, Nat.zero_add, List.nil_append] at q4 ⊢
  simp -implicitDefEqProofs only [kz, kk0, kk1, kk2, kk3, ↓two_true, ↓two_false, mkv, aggAt, Nat.reduceLeDiff, Nat.reduceSub, Nat.reduceMul, implies_true, Nat.reduceEqDiff, reduceIte, Nat.reduceAdd, Nat.reduceBEq, reduceCtorEq, ap22_22, fa26_0, ld22, ld26, ln22, q4.rd 1 rfl, q4.rd 2 rfl]
  refine (implOk_ar (a.ext q4.ext)).mono ?_
  rintro _ H4 ⟨rfl, he1⟩
  have q5 := q4.extd he1
  simp -implicitDefEqProofs only [kz, kk0, kk1, kk2, kk3, ↓two_true, ↓two_false, mkv, aggAt, Nat.reduceLeDiff, Nat.reduceSub, Nat.reduceMul, implies_true, Nat.reduceEqDiff, reduceIte, Nat.reduceAdd, Nat.reduceBEq, reduceCtorEq, ap22_22, fa26_0, ld22, ld26, ln22, q5.rd 1 rfl, q5.rd 2 rfl]
  refine two_intro (fun u1 => ?_) (fun u1 => ?_)
  ·
    try simp -implicitDefEqProofs only [kz, kk0, kk1, kk2, kk3, ↓two_true, ↓two_false, mkv, aggAt, Nat.reduceLeDiff, Nat.reduceSub, Nat.reduceMul, implies_true, Nat.reduceEqDiff, reduceIte, Nat.reduceAdd, Nat.reduceBEq, reduceCtorEq, ap22_22, fa26_0, ld22, ld26, ln22, q5.rd 1 rfl, q5.rd 2 rfl]
    -- end1
    have q6 := q5.nil0
    exact q6.ansR 0 rfl (by simp [fitR, show arrOk sa da = false by simpa using u1])
  ·
    have v1 : arrOk sa da = true := by simpa using u1
    try simp -implicitDefEqProofs only [kz, kk0, kk1, kk2, kk3, ↓two_true, ↓two_false, mkv, aggAt, Nat.reduceLeDiff, Nat.reduceSub, Nat.reduceMul, implies_true, Nat.reduceEqDiff, reduceIte, Nat.reduceAdd, Nat.reduceBEq, reduceCtorEq, ap22_22, fa26_0, ld22, ld26, ln22, q5.rd 1 rfl, q5.rd 2 rfl]
    refine (implOk_ar (b.ext q5.ext)).mono ?_
    rintro _ H5 ⟨rfl, he2⟩
    have q7 := q5.extd he2
    simp -implicitDefEqProofs only [kz, kk0, kk1, kk2, kk3, ↓two_true, ↓two_false, mkv, aggAt, Nat.reduceLeDiff, Nat.reduceSub, Nat.reduceMul, implies_true, Nat.reduceEqDiff, reduceIte, Nat.reduceAdd, Nat.reduceBEq, reduceCtorEq, ap22_22, fa26_0, ld22, ld26, ln22, q7.rd 1 rfl, q7.rd 2 rfl]
    refine two_intro (fun u2 => ?_) (fun u2 => ?_)
    ·
      try simp -implicitDefEqProofs only [kz, kk0, kk1, kk2, kk3, ↓two_true, ↓two_false, mkv, aggAt, Nat.reduceLeDiff, Nat.reduceSub, Nat.reduceMul, implies_true, Nat.reduceEqDiff, reduceIte, Nat.reduceAdd, Nat.reduceBEq, reduceCtorEq, ap22_22, fa26_0, ld22, ld26, ln22, q7.rd 1 rfl, q7.rd 2 rfl]
      -- end2
      have q8 := q7.nil0
      exact q8.ansR 0 rfl (by simp [fitR, show arrOk sb db = false by simpa using u2])
    ·
      have v2 : arrOk sb db = true := by simpa using u2
      try simp -implicitDefEqProofs only [kz, kk0, kk1, kk2, kk3, ↓two_true, ↓two_false, mkv, aggAt, Nat.reduceLeDiff, Nat.reduceSub, Nat.reduceMul, implies_true, Nat.reduceEqDiff, reduceIte, Nat.reduceAdd, Nat.reduceBEq, reduceCtorEq, ap22_22, fa26_0, ld22, ld26, ln22, q7.rd 1 rfl, q7.rd 2 rfl]
      refine two_intro (fun u3 => ?_) (fun u3 => ?_)
      ·
        have v3 : sa.length = 0 := by simpa using u3
        try simp -implicitDefEqProofs only [kz, kk0, kk1, kk2, kk3, ↓two_true, ↓two_false, mkv, aggAt, Nat.reduceLeDiff, Nat.reduceSub, Nat.reduceMul, implies_true, Nat.reduceEqDiff, reduceIte, Nat.reduceAdd, Nat.reduceBEq, reduceCtorEq, ap22_22, fa26_0, ld22, ld26, ln22, q7.rd 1 rfl, q7.rd 2 rfl]
        have q9 := q7.nil0
        refine st_app q9 0 rfl (b.os.ext q9.ext) (by (try simp only [List.length_cons, List.length_nil, List.length_append, List.length_replicate, List.length_map, List.length_take, List.length_drop]); omega) fun a2 c2 H6 q10 => ?_
        simp only [List.set_cons_zero, List.set_cons_succ, List.length_nil, List.length_cons, Nat.zero_add, List.nil_append] at q10 ⊢
        simp -implicitDefEqProofs only [kz, kk0, kk1, kk2, kk3, ↓two_true, ↓two_false, mkv, aggAt, Nat.reduceLeDiff, Nat.reduceSub, Nat.reduceMul, implies_true, Nat.reduceEqDiff, reduceIte, Nat.reduceAdd, Nat.reduceBEq, reduceCtorEq, ap22_22, fa26_0, ld22, ld26, ln22, q10.rd 2 rfl, q10.rd 3 rfl]
        -- end3
        exact q10.ansR 0 rfl (by unfold fitR; rw [v1, v2]; simp only [Bool.and_self, if_true, v3])
      ·
        have v3 : sa.length ≠ 0 := by simpa using u3
        try simp -implicitDefEqProofs only [kz, kk0, kk1, kk2, kk3, ↓two_true, ↓two_false, mkv, aggAt, Nat.reduceLeDiff, Nat.reduceSub, Nat.reduceMul, implies_true, Nat.reduceEqDiff, reduceIte, Nat.reduceAdd, Nat.reduceBEq, reduceCtorEq, ap22_22, fa26_0, ld22, ld26, ln22, q7.rd 1 rfl, q7.rd 2 rfl]
        refine two_intro (fun u4 => ?_) (fun u4 => ?_)
        ·
          have v4 : sb.length = 0 := by simpa using u4
          try simp -implicitDefEqProofs only [kz, kk0, kk1, kk2, kk3, ↓two_true, ↓two_false, mkv, aggAt, Nat.reduceLeDiff, Nat.reduceSub, Nat.reduceMul, implies_true, Nat.reduceEqDiff, reduceIte, Nat.reduceAdd, Nat.reduceBEq, reduceCtorEq, ap22_22, fa26_0, ld22, ld26, ln22, q7.rd 1 rfl, q7.rd 2 rfl]
          -- end4
          exact q7.ansR 0 rfl (by unfold fitR; rw [v1, v2]; simp only [Bool.and_self, if_true]; rw [if_neg v3, if_pos v4])
        ·
          have v4 : sb.length ≠ 0 := by simpa using u4
          try simp -implicitDefEqProofs only [kz, kk0, kk1, kk2, kk3, ↓two_true, ↓two_false, mkv, aggAt, Nat.reduceLeDiff, Nat.reduceSub, Nat.reduceMul, implies_true, Nat.reduceEqDiff, reduceIte, Nat.reduceAdd, Nat.reduceBEq, reduceCtorEq, ap22_22, fa26_0, ld22, ld26, ln22, q7.rd 1 rfl, q7.rd 2 rfl]
          refine two_intro (fun u5 => ?_) (fun u5 => ?_)
          ·
            have v5 : sa.length ≠ sb.length := by simp at u5; omega
            try simp -implicitDefEqProofs only [kz, kk0, kk1, kk2, kk3, ↓two_true, ↓two_false, mkv, aggAt, Nat.reduceLeDiff, Nat.reduceSub, Nat.reduceMul, implies_true, Nat.reduceEqDiff, reduceIte, Nat.reduceAdd, Nat.reduceBEq, reduceCtorEq, ap22_22, fa26_0, ld22, ld26, ln22, q7.rd 1 rfl, q7.rd 2 rfl]
            -- end5
            have q11 := q7.nil0
            exact q11.ansR 0 rfl (by unfold fitR; rw [v1, v2]; simp only [Bool.and_self, if_true]; rw [if_neg v3, if_neg v4, if_pos v5])
          ·
            have v5 : sa.length = sb.length := by simp at u5; omega
            have es1 := fun Φ => (equalI_ok (a.os.ext q7.ext) (b.os.ext q7.ext) (by omega)).eq0 (Φ := Φ)
            try simp -implicitDefEqProofs only [kz, kk0, kk1, kk2, kk3, ↓two_true, ↓two_false, mkv, aggAt, Nat.reduceLeDiff, Nat.reduceSub, Nat.reduceMul, implies_true, Nat.reduceEqDiff, reduceIte, Nat.reduceAdd, Nat.reduceBEq, reduceCtorEq, ap22_22, fa26_0, ld22, ld26, ln22, es1, q7.rd 1 rfl, q7.rd 2 rfl]
            refine two_intro (fun u6 => ?_) (fun u6 => ?_)
            ·
              have v6 : (sa == sb) = false := by rw [Bool.not_eq_true'] at u6; exact u6
              try simp -implicitDefEqProofs only [kz, kk0, kk1, kk2, kk3, ↓two_true, ↓two_false, mkv, aggAt, Nat.reduceLeDiff, Nat.reduceSub, Nat.reduceMul, implies_true, Nat.reduceEqDiff, reduceIte, Nat.reduceAdd, Nat.reduceBEq, reduceCtorEq, ap22_22, fa26_0, ld22, ld26, ln22, es1, q7.rd 1 rfl, q7.rd 2 rfl]
              -- end6
              have q12 := q7.nil0
              exact q12.ansR 0 rfl (by unfold fitR; rw [v1, v2]; simp only [Bool.and_self, if_true]; rw [if_neg v3, if_neg v4, if_neg (by simpa using v5), if_neg (by rw [v6]; decide)])
            ·
              have v6 : (sa == sb) = true := by rw [Bool.not_eq_false'] at u6; exact u6
              try simp -implicitDefEqProofs only [kz, kk0, kk1, kk2, kk3, ↓two_true, ↓two_false, mkv, aggAt, Nat.reduceLeDiff, Nat.reduceSub, Nat.reduceMul, implies_true, Nat.reduceEqDiff, reduceIte, Nat.reduceAdd, Nat.reduceBEq, reduceCtorEq, ap22_22, fa26_0, ld22, ld26, ln22, es1, q7.rd 1 rfl, q7.rd 2 rfl]
              -- end7
              exact q7.ansR 0 rfl (by unfold fitR; rw [v1, v2]; simp only [Bool.and_self, if_true]; rw [if_neg v3, if_neg v4, if_neg (by simpa using v5), if_pos v6])

end Go.Proofs.Ytmlimgdpcoloiaa.AM
