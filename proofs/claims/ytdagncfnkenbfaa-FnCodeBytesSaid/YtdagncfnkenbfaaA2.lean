/- The abstract machine: reading, making, storing, appending, each sound. -/
import Derived.Test.YtdagncfnkenbfaaA1
import Derived.Laws.BytesString
import Derived.IntWalk
import Derived.Lib.AppendZeros
set_option linter.unusedVariables false
set_option linter.unusedSimpArgs false
set_option linter.defProp false
/- The abstract machine, seventh part: operations that read memory, and those that make memory. -/
namespace Go.Proofs.Ytdagncfnkenbfaa.AM
open Go

/-- n cells from place o on. -/
def cellsAt (cs : List Value) (o n : Nat) : Option (List Value) := if o + n ≤ cs.length then some ((cs.drop o).take n) else none

theorem cellsAt_len {cs l : List Value} {o n : Nat} (h : cellsAt cs o n = some l) : l.length = n ∧ ∀ i v, l[i]? = some v → cs[o + i]? = some v := by
  unfold cellsAt at h
  split at h
  · cases h
    refine ⟨by simp; omega, fun i v hv => ?_⟩
    rw [List.getElem?_take] at hv
    split at hv
    · rwa [List.getElem?_drop] at hv
    · cases hv
  · cases h

def aLoad (P : Program) (t : TypeId) (x : Value) (G : Hp) : Option Value :=
  match x with
  | .pointer (some ⟨b, o, none⟩) =>
    match G b with
    | some ⟨cs, st⟩ =>
      if st = .dead then none else
      match isAggT P t with
      | some true => (szOf P t).bind fun n => (cellsAt cs o n).map fun l => .agg l.toArray
      | some false => cs[o]?
      | none => none
    | none => none
  | _ => none

/-- The cells of a slice. -/
def aCells (x : Value) (s : Nat) (G : Hp) : Option (List Value) :=
  match x with
  | .slice none _ _ => some []
  | .slice (some ⟨b, o, none⟩) n _ =>
    match G b with
    | some ⟨cs, st⟩ => if st = .dead then none else cellsAt cs o (n * s)
    | none => none
  | _ => none

def u8s : List Value → Option (List Int)
  | [] => some []
  | .int .u8 n :: r => (u8s r).map (n :: ·)
  | _ => none
theorem u8s_some : ∀ {l : List Value} {ns : List Int}, u8s l = some ns → l = ns.map (Value.int .u8)
  | [], ns, h => by simp [u8s] at h; subst h; rfl
  | .int .u8 n :: r, ns, h => by
    simp only [u8s, Option.map_eq_some_iff] at h
    obtain ⟨m, hm, rfl⟩ := h
    simp [u8s_some hm]
  | .int .i64 n :: r, ns, h => by simp [u8s] at h
  | .int .i32 n :: r, ns, h => by simp [u8s] at h
  | .int .i16 n :: r, ns, h => by simp [u8s] at h
  | .int .i8 n :: r, ns, h => by simp [u8s] at h
  | .int .u64 n :: r, ns, h => by simp [u8s] at h
  | .int .u32 n :: r, ns, h => by simp [u8s] at h
  | .int .u16 n :: r, ns, h => by simp [u8s] at h
  | .bool _ :: r, ns, h => by simp [u8s] at h
  | .float _ _ :: r, ns, h => by simp [u8s] at h
  | .complex _ _ _ :: r, ns, h => by simp [u8s] at h
  | .string _ :: r, ns, h => by simp [u8s] at h
  | .pointer _ :: r, ns, h => by simp [u8s] at h
  | .slice _ _ _ :: r, ns, h => by simp [u8s] at h
  | .map _ :: r, ns, h => by simp [u8s] at h
  | .chan _ :: r, ns, h => by simp [u8s] at h
  | .func _ _ _ :: r, ns, h => by simp [u8s] at h
  | .nilFunc :: r, ns, h => by simp [u8s] at h
  | .iface _ _ :: r, ns, h => by simp [u8s] at h
  | .nilIface :: r, ns, h => by simp [u8s] at h
  | .agg _ :: r, ns, h => by simp [u8s] at h
  | .tuple _ :: r, ns, h => by simp [u8s] at h

def strOf (ns : List Int) : ByteArray := ns.foldl (fun r n => r.push (UInt8.ofNat n.toNat)) ByteArray.empty

def aConv (P : Program) (src dst : TypeId) (x : Value) (G : Hp) : Option Value :=
  if scal1 x then told (runP P (convert src dst x)) else
  match P.underlying src, P.underlying dst with
  | some (.slice e), some .string =>
    match P.underlying e with
    | some (.int .u8) => (aCells x 1 G).bind fun l => (u8s l).map fun ns => .string (strOf ns)
    | _ => none
  | _, _ => none

/-- Operations that read memory: of what operand's value. -/
def rdArg : Op → Option Operand
  | .load _ x | .convert _ _ x => some x
  | _ => none
def aRead (P : Program) (o : Op) (x : Value) (G : Hp) : Option Value :=
  match o with
  | .load t _ => aLoad P t x G
  | .convert s d _ => aConv P s d x G
  | _ => none

section
variable {P : Program} {ρ : Rho} {G : Hp} {w : World}

theorem HR.cells (h : HR ρ G w) {b : Nat} {l : Loc} {k : Blk} (hb : ρ b = some l) (hk : G b = some k) (hd : k.st ≠ .dead) {o n : Nat} {cs : List Value} (hc : cellsAt k.cells o n = some cs) :
    ∃ cs', VL ρ cs cs' ∧ ∀ i v, cs'[i]? = some v → w.cell? ((l.base.add o).add i) = some v := by
  obtain ⟨hl, hv⟩ := cellsAt_len hc
  have key : ∀ i : Fin n, ∃ v', w.cell? (l.base.add (o + i)) = some v' ∧ ∀ v, cs[i.1]? = some v → VR ρ v v' := by
    intro i
    have hi : i.1 < cs.length := by rw [hl]; exact i.2
    obtain ⟨v', h1, h2⟩ := h.cell b l k hb hk hd (o + i) cs[i.1] (hv _ _ (List.getElem?_eq_getElem hi))
    exact ⟨v', h1, fun v hv => by rw [List.getElem?_eq_getElem hi] at hv; cases hv; exact h2⟩
  refine ⟨List.ofFn fun i => (key i).choose, ⟨by simp [hl], fun i v v' a b => ?_⟩, fun i v a => ?_⟩
  · rw [List.getElem?_ofFn] at b
    split at b
    · rename_i hi
      cases b
      exact (key ⟨i, hi⟩).choose_spec.2 v a
    · cases b
  · rw [List.getElem?_ofFn] at a
    split at a
    · rename_i hi
      cases a
      rw [add_add]
      exact (key ⟨i, hi⟩).choose_spec.1
    · cases a

theorem load_sound (h : HR ρ G w) {t : Nat} {x x' v : Value} (hx : VR ρ x x') (hl : aLoad P t x G = some v) : ∃ v', VR ρ v v' ∧ (Instr.loadAt t x').run P w = .ok v' w := by
  unfold aLoad at hl
  split at hl
  case h_2 => cases hl
  rename_i b o
  split at hl
  case h_2 => cases hl
  rename_i cs st hG
  split at hl
  · cases hl
  rename_i hd
  cases hx with
  | @ptr _ _ l hb =>
    split at hl
    · rename_i ha
      simp only [Option.bind_eq_some_iff, Option.map_eq_some_iff] at hl
      obtain ⟨n, hn, c, hc, rfl⟩ := hl
      obtain ⟨cs', hr, hcell⟩ := h.cells hb hG hd hc
      have hlen : cs'.length = n := by rw [← hr.1]; exact (cellsAt_len hc).1
      refine ⟨.agg cs'.toArray, VR.aggL (by simpa using hr), ?_⟩
      have hrun := run_loadCells_list (P := P) w (l.base.add o) cs' hcell
      rw [hlen] at hrun
      simp [Instr.loadAt, Instr.sureAddr, loadVar, run_agg ha, run_sizeOf hn, hrun]
    · rename_i ha
      obtain ⟨v', hc, hr⟩ := h.cell b l _ hb hG hd o v hl
      exact ⟨v', hr, by simp [Instr.loadAt, Instr.sureAddr, loadVar, run_agg ha, hc]⟩
    · cases hl

/-- A slice's cells, in the model. -/
theorem aCells_sound (h : HR ρ G w) {x x' : Value} {s : Nat} {cs : List Value} (hx : VR ρ x x') (hc : aCells x s G = some cs) :
    ∃ a n c c' a', x = .slice a n c ∧ x' = .slice a' n c' ∧ cs.length = n * s ∧ ∃ cs', VL ρ cs cs' ∧ (∀ w' : World, w'.heap = w.heap → (Builtin.firstCells s n x').run P w' = .ok cs'.toArray w') ∧
      (∀ ad, a' = some ad → ∀ i v, cs'[i]? = some v → w.cell? (ad.add i) = some v) ∧ (a' = none → n = 0) := by
  unfold aCells at hc
  split at hc
  · rename_i n c
    cases hc
    cases hx
    exact ⟨_, _, _, _, _, rfl, rfl, by simp, [], VL.nil, fun w' _ => by simp [Builtin.firstCells], by simp, fun _ => rfl⟩
  · rename_i b o n c
    split at hc
    case h_2 => cases hc
    rename_i k st hG
    split at hc
    · cases hc
    rename_i hd
    cases hx with
    | @sl _ _ _ _ c' x l hn hl hor =>
      have hlen := (cellsAt_len hc).1
      rcases hor with h0 | ⟨rfl, hsz⟩
      · have hn0 : n = 0 := by omega
        subst hn0
        have : cs = [] := List.eq_nil_of_length_eq_zero (by simpa using hlen)
        subst this
        refine ⟨_, _, _, _, _, rfl, rfl, by simp, [], VL.nil, fun w' _ => ?_, by simp, fun _ => rfl⟩
        cases x with
        | none => simp [Builtin.firstCells]
        | some ad => simpa using run_firstCells_some (P := P) w' s 0 ad 0 c' [] (by simp) (by simp)
      · obtain ⟨cs', hr, hcell⟩ := h.cells hl hG hd hc
        refine ⟨_, _, _, _, _, rfl, rfl, hlen, cs', hr, fun w' hw => ?_, fun ad e => by cases e; exact hcell, fun e => by cases e⟩
        exact run_firstCells_some (P := P) w' s n _ n c' cs' (by rw [← hr.1]; exact hlen) (fun j v hv => by rw [cell?_congr (w := w) (by rw [hw])]; exact hcell j v hv)
  · cases hc

theorem VL_u8 : ∀ {ns : List Int} {l : List Value}, VL ρ (ns.map (Value.int .u8)) l → l = ns.map (Value.int .u8)
  | [], [], _ => rfl
  | [], _ :: _, h => absurd h.1 (by simp)
  | _ :: _, [], h => absurd h.1 (by simp)
  | n :: ns, y :: l, h => by
    have e1 := scal1_eq (v := .int .u8 n) rfl (h.2 0 _ y rfl rfl)
    have e2 := VL_u8 (ns := ns) (l := l) ⟨by simpa using h.1, fun i a b e f => h.2 (i + 1) a b (by simpa using e) (by simpa using f)⟩
    rw [e1, e2]; rfl

theorem conv_sound (h : HR ρ G w) {s d : Nat} {x x' v : Value} (hx : VR ρ x x') (hl : aConv P s d x G = some v) : ∃ v', VR ρ v v' ∧ (convert s d x').run P w = .ok v' w := by
  unfold aConv at hl
  split at hl
  · rename_i hs
    have e := scal1_eq hs hx
    subst e
    obtain ⟨hr, hv⟩ := told_some hl
    exact ⟨v, scal1_refl hv, runP_run hr w⟩
  · split at hl
    case h_2 => cases hl
    rename_i e hus hud
    split at hl
    case h_2 => cases hl
    rename_i hue
    simp only [Option.bind_eq_some_iff, Option.map_eq_some_iff] at hl
    obtain ⟨l, hcs, ns, hns, rfl⟩ := hl
    obtain ⟨a, n, c, c', a', rfl, rfl, hlen, cs', hr, hfc, hcell, hnil⟩ := aCells_sound (P := P) h hx hcs
    have hl := u8s_some hns
    subst hl
    have hcs' := VL_u8 hr
    subst hcs'
    refine ⟨_, .string _, ?_⟩
    rw [run_convert_bytes_string w s d e a' n c' hus hue hud]
    cases a' with
    | none =>
      have h0 := hnil rfl
      subst h0
      have : ns = [] := by simpa using hlen
      subst this
      simp [Conv.bytesToString, strOf]
    | some ad =>
      refine run_bytesToString w ad n c' ns ?_
      have := run_loadCells_list (P := P) w ad (ns.map (Value.int .u8)) (hcell ad rfl)
      have hl2 : ns.length = n := by simpa using hlen
      simpa [hl2] using this

theorem read_sound (h : HR ρ G w) {ev ev' : Operand → Value} (hev : ∀ x, opdOk x = true → VR ρ (ev x) (ev' x)) {o : Oper} {x : Operand} {v : Value} (hok : o.op.operands.all opdOk = true) (hx : rdArg o.op = some x)
    (hl : aRead P o.op (ev x) G = some v) : ∃ v', VR ρ v v' ∧ (execOp ev' o).run P w = .ok (.value v') w := by
  cases ho : o.op with
  | load t y =>
    simp only [ho, rdArg, aRead, Op.operands] at hx hl hok
    cases hx
    obtain ⟨v', hr, hw⟩ := load_sound h (hev x (by simpa using hok)) hl
    exact ⟨v', hr, by simp [execOp, ho, hw]⟩
  | convert s d y =>
    simp only [ho, rdArg, aRead, Op.operands] at hx hl hok
    cases hx
    obtain ⟨v', hr, hw⟩ := conv_sound h (hev x (by simpa using hok)) hl
    exact ⟨v', hr, by simp [execOp, ho, hw]⟩
  | _ => simp [ho, rdArg] at hx
end
end Go.Proofs.Ytdagncfnkenbfaa.AM
/- The abstract machine, eighth part: memory that is made, and stores. -/
namespace Go.Proofs.Ytdagncfnkenbfaa.AM
open Go

def zfill (z : Array Value) (n : Nat) : Array Value := (Array.range n).map (z[· % z.size]!)

/-- What an operation makes: the cells, and (a slice) how many elements of how many cells. -/
def aMake (P : Program) (ev : Operand → Value) : Op → Option (List Value × Option (Nat × Nat))
  | .alloc t =>
    match zeroOf P t with
    | some z => if z.cells.all closed1 then some (z.cells.toList, none) else none
    | none => none
  | .box _ x => some ((ev x).cells.toList, none)
  | .buildSlice t len ps =>
    match P.underlying t with
    | some (.slice e) =>
      match szOf P e, zeroOf P e with
      | some s, some z =>
        if len * s ≤ 16777216 ∧ z.cells.all closed1 = true then (Instr.fill (fun i => some (i * s, s)) (zfill z.cells (len * s)) (ps.map fun (i, x) => (i, ev x)).toList).map fun cs => (cs.toList, some (len, s)) else none
      | _, _ => none
    | _ => none
  | .makeSlice t l c =>
    match P.underlying t, ev l, ev c with
    | some (.slice e), .int _ n, .int _ m =>
      match P.info? e with
      | some i =>
        match i.zero with
        | some z => if n = m ∧ 0 ≤ n ∧ n ≤ 1073741824 ∧ i.bytes ≤ 1024 ∧ z.cells.all closed1 = true then some ((zfill z.cells (n.toNat * i.size)).toList, some (n.toNat, i.size)) else none
        | none => none
      | none => none
    | _, _, _ => none
  | _ => none

def mkv (i : Option (Nat × Nat)) (b : Nat) : Value :=
  match i with
  | none => .pointer (some ⟨b, 0, none⟩)
  | some (n, s) => .slice (some ⟨b, 0, none⟩) n s

def mkc (i : Option (Nat × Nat)) (b : Nat) : Value :=
  match i with
  | none => .pointer (some ⟨b, 0, none⟩)
  | some (n, _) => .slice (some ⟨b, 0, none⟩) n n

theorem fill_size (place : Nat → Option (Nat × Nat)) : ∀ (ps : List (Nat × Value)) (cs r : Array Value), Instr.fill place cs ps = some r → r.size = cs.size
  | [], cs, r, h => by simp [Instr.fill] at h; rw [h]
  | (i, v) :: ps, cs, r, h => by
    simp only [Instr.fill] at h
    split at h
    · cases h
    · split at h
      · cases h
      · rw [fill_size place ps _ r h]
        have key : ∀ (l : List (Value × Nat)) (off : Nat) (c : Array Value), (l.foldl (fun cs (x : Value × Nat) => cs.setIfInBounds (off + x.2) x.1) c).size = c.size := by
          intro l
          induction l with
          | nil => intro off c; rfl
          | cons x l ih => intro off c; simp only [List.foldl_cons]; rw [ih]; simp
        rename_i off size _ _
        have e : ∀ (zs c : Array Value), zs.zipIdx.foldl (fun cs (x : Value × Nat) => cs.setIfInBounds (off + x.2) x.1) c = zs.toList.zipIdx.foldl (fun cs (x : Value × Nat) => cs.setIfInBounds (off + x.2) x.1) c := by
          intro zs c
          rw [← Array.foldl_toList, Array.toList_zipIdx]
        have := key v.cells.toList.zipIdx off cs
        rw [← e] at this
        exact this

theorem zfill_closed {z : Array Value} (h : z.all closed1 = true) (n : Nat) : (zfill z n).all closed1 = true := by
  rw [Array.all_eq_true]
  intro i hi
  simp only [zfill, Array.getElem_map]
  by_cases hz : (Array.range n)[i]'(by simpa [zfill] using hi) % z.size < z.size
  · rw [getElem!_pos z _ hz]
    exact (Array.all_eq_true.1 h) _ hz
  · rw [getElem!_neg z _ hz]
    rfl
theorem VL_closed {ρ : Rho} {z : Array Value} (h : z.all closed1 = true) : VL ρ z.toList z.toList := by
  rw [VL.iff_array]
  exact ⟨rfl, fun i h1 _ => closed1_refl ((Array.all_eq_true.1 h) i h1)⟩
theorem range0 : Array.range 0 = #[] := rfl
theorem zfill0 (z : Array Value) : zfill z 0 = #[] := by simp [zfill, range0]
theorem zfill_size (z : Array Value) (n : Nat) : (zfill z n).size = n := by simp [zfill]

section
variable {P : Program} {ρ : Rho}
/-- What the model makes: a new block, and its address or a slice over it. -/
theorem make_sound {ev ev' : Operand → Value} (hev : ∀ x, opdOk x = true → VR ρ (ev x) (ev' x)) {o : Oper} {cs : List Value} {i : Option (Nat × Nat)} (hok : o.op.operands.all opdOk = true) (h : aMake P ev o.op = some (cs, i)) :
    (∀ n s, i = some (n, s) → cs.length = n * s) ∧ ∃ (cs' : Array Value) (t : TypeId), VL ρ cs cs'.toList ∧
      ∀ w : World, (execOp ev' o).run P w = .ok (.value (mkc i w.heap.size)) (w.alloc (.cells cs' t)) := by
  cases ho : o.op with
  | alloc t =>
    simp only [ho, aMake] at h
    split at h
    case h_2 => cases h
    rename_i z hz
    split at h
    case isFalse => cases h
    rename_i hc
    cases h
    refine ⟨(fun _ _ e => by cases e), z.cells, t, VL_closed hc, fun w => ?_⟩
    simp [execOp, ho, Instr.alloc, run_zero hz, newVar, newRow, mkc]
  | box t x =>
    simp only [ho, aMake, Op.operands] at h hok
    cases h
    refine ⟨(fun _ _ e => by cases e), (ev' x).cells, t, (hev x (by simpa using hok)).cells, fun w => ?_⟩
    simp [execOp, ho, Instr.box, newVar, newRow, mkc]
  | buildSlice t len ps =>
    simp only [ho, aMake, Op.operands] at h hok
    split at h
    case h_2 => cases h
    rename_i e hu
    split at h
    case h_2 => cases h
    rename_i s z hs hz
    split at h
    case isFalse => cases h
    rename_i hc
    simp only [Option.map_eq_some_iff, Prod.mk.injEq] at h
    obtain ⟨r, hf, rfl, rfl⟩ := h
    have hlen := fill_size _ _ _ _ hf
    rw [zfill_size] at hlen
    obtain ⟨r', hf', hr⟩ := fill_rel (ρ := ρ) (fun i => some (i * s, s)) (ps.map fun (i, x) => (i, ev x)).toList (ps.map fun (i, x) => (i, ev' x)).toList _ _ r (VL_closed (zfill_closed hc.2 (len * s))) (by simp)
      (fun i p p' a b => by
        simp only [Array.getElem?_toList, Array.getElem?_map, Option.map_eq_some_iff] at a b
        obtain ⟨q, hq, rfl⟩ := a
        obtain ⟨q', hq', rfl⟩ := b
        rw [hq] at hq'
        cases hq'
        refine ⟨rfl, hev _ ?_⟩
        obtain ⟨hi, rfl⟩ := Array.getElem?_eq_some_iff.1 hq
        simp only [List.all_toArray, List.all_map, List.all_eq_true] at hok
        exact hok _ (by simp)) hf
    refine ⟨(fun n s' e => by cases e; simpa using hlen), r', e, hr, fun w => ?_⟩
    have hbig : ¬ (16777216 < len * s) := by have := hc.1; omega
    have hz0 : (Array.range (len * s)).map (z.cells[· % z.cells.size]!) = zfill z.cells (len * s) := rfl
    by_cases h0 : len * s = 0
    · have hf0 : Instr.fill (fun i => some (i * s, s)) #[] (ps.map fun (i, x) => (i, ev' x)).toList = some r' := by
        rw [← hf', h0, zfill0]
      simp only [Array.toList_map] at hf0
      simp [execOp, ho, Instr.buildSlice, run_und hu, run_sizeOf hs, h0, hf0, newRow, mkc, range0]
    · simp only [execOp, ho, Instr.buildSlice, Sem.run_bind, run_und hu, Result.andThen_ok, run_sizeOf hs, Nat.reducePow, gt_iff_lt, hbig, if_false, h0, Sem.run_pure, run_zero hz, hz0, hf']
      simp [newRow, mkc]
  | makeSlice t l c =>
    simp only [ho, aMake, Op.operands] at h hok
    simp at hok
    split at h
    case h_2 => cases h
    rename_i e k n k' m hu hl hcc
    split at h
    case h_2 => cases h
    rename_i i hi
    split at h
    case h_2 => cases h
    rename_i z hz
    split at h
    case isFalse => cases h
    rename_i hb
    obtain ⟨rfl, h0, h1, h2, hc⟩ := hb
    cases h
    have e1 := hev l hok.1
    have e2 := hev c hok.2
    rw [hl] at e1
    rw [hcc] at e2
    generalize hzl : ev' l = zl at e1
    generalize hzc : ev' c = zc at e2
    cases e1
    cases e2
    refine ⟨(fun a b e => by cases e; simp [zfill_size]), zfill z.cells (n.toNat * i.size), e, VL_closed (zfill_closed hc _), fun w => ?_⟩
    have hw : IntKind.i64.wrap n = n := IntWalk.i64_in n (by omega)
    have hby : ¬ (281474976710656 < (i.bytes : Int) * n) := by
      have : (i.bytes : Int) * n ≤ 1024 * 1073741824 := by
        have a1 : (i.bytes : Int) ≤ 1024 := by omega
        calc (i.bytes : Int) * n ≤ 1024 * n := Int.mul_le_mul_of_nonneg_right a1 h0
          _ ≤ 1024 * 1073741824 := Int.mul_le_mul_of_nonneg_left h1 (by omega)
      omega
    have hn0 : ¬ (n < 0) := by omega
    have hsz := run_sizeOf (P := P) (t := e) (n := i.size) (by simp [szOf, hi])
    have hzr := run_zero (P := P) (t := e) (v := z) (by simp [zeroOf, hi, hz])
    have hz0 : (Array.range (n.toNat * i.size)).map (z.cells[· % z.cells.size]!) = zfill z.cells (n.toNat * i.size) := rfl
    by_cases h00 : n.toNat * i.size = 0
    · simp [execOp, ho, Instr.makeSlice, run_und hu, hzl, hzc, asInt, asIntOf, typeInfo, hi, hw, hn0, hby, hsz, h00, newRow, mkc, range0, zfill0]
    · simp [execOp, ho, Instr.makeSlice, run_und hu, hzl, hzc, asInt, asIntOf, typeInfo, hi, hw, hn0, hby, hsz, h00, hzr, newRow, mkc, hz0]
  | _ => simp [ho, aMake] at h
end
end Go.Proofs.Ytdagncfnkenbfaa.AM
/- The abstract machine, ninth part: a new block, a store. -/
namespace Go.Proofs.Ytdagncfnkenbfaa.AM
open Go

def rupd (ρ : Rho) (b : Nat) (l : Loc) : Rho := fun c => if c = b then some l else ρ c
def gupd (G : Hp) (b : Nat) (k : Blk) : Hp := fun c => if c = b then some k else G c

theorem rupd_same (ρ : Rho) (b : Nat) (l : Loc) : rupd ρ b l b = some l := by simp [rupd]
theorem rupd_ne {ρ : Rho} {b c : Nat} (l : Loc) (h : c ≠ b) : rupd ρ b l c = ρ c := by simp [rupd, h]
theorem gupd_same (G : Hp) (b : Nat) (k : Blk) : gupd G b k b = some k := by simp [gupd]
theorem gupd_ne {G : Hp} {b c : Nat} (k : Blk) (h : c ≠ b) : gupd G b k c = G c := by simp [gupd, h]
theorem Sub.rupd {ρ : Rho} {b : Nat} (l : Loc) (h : ρ b = none) : Sub ρ (rupd ρ b l) := by
  intro c l' hc
  by_cases e : c = b
  · subst e; rw [h] at hc; cases hc
  · rw [rupd_ne _ e]; exact hc

theorem get_append (H : AH) (k : Blk) : AH.get (H ++ [k]) = gupd (AH.get H) H.length k := by
  funext c
  simp only [AH.get, gupd]
  by_cases h : c = H.length
  · subst h; simp
  · simp only [h, if_false]
    by_cases h1 : c < H.length
    · rw [List.getElem?_append_left h1]
    · rw [List.getElem?_eq_none (by simp; omega), List.getElem?_eq_none (by omega)]
theorem get_set {H : AH} {b : Nat} (k : Blk) (hb : b < H.length) : AH.get (H.set b k) = gupd (AH.get H) b k := by
  funext c
  simp only [AH.get, gupd, List.getElem?_set]
  by_cases h : c = b
  · subst h; simp [hb]
  · simp [h, Ne.symm h]
theorem get_none {H : AH} {b : Nat} (h : H.length ≤ b) : AH.get H b = none := by simp [AH.get, h]
theorem get_lt {H : AH} {b : Nat} {k : Blk} (h : AH.get H b = some k) : b < H.length := (List.getElem?_eq_some_iff.1 h).1

section
variable {P : Program} {ρ : Rho} {G : Hp} {w : World}

theorem heap_alloc_old (w : World) (o : Obj) {g : Nat} (hg : g < w.heap.size) : (w.alloc o).heap[g]? = w.heap[g]? := by
  show (w.heap.push o)[g]? = _
  simp [Array.getElem?_push, Nat.ne_of_lt hg]
theorem heap_alloc_new (w : World) (o : Obj) : (w.alloc o).heap[w.heap.size]? = some o := by
  show (w.heap.push o)[w.heap.size]? = _
  simp

/-- A new block, with room to spare. 'b' may be any number that is not mapped yet. -/
theorem HR.alloc_room (h : HR ρ G w) {b n : Nat} {cs : List Value} {cs' : Array Value} {t : TypeId} (hr : ∀ (i : Nat) (v : Value), cs[i]? = some v → ∃ v', cs'[i]? = some v' ∧ VR ρ v v') (h1 : cs.length ≤ n) (h2 : n ≤ cs'.size) (hb : ρ b = none) :
    HR (rupd ρ b ⟨⟨w.heap.size, 0, none⟩, n⟩) (gupd G b ⟨cs, .own⟩) (w.alloc (.cells cs' t)) := by
  refine h.target (Sub.rupd _ hb) b ⟨⟨w.heap.size, 0, none⟩, n⟩ ⟨cs, .own⟩ (rupd_same ..) (gupd_same ..) ?_ ?_ ?_ ?_
  · intro i v hv
    obtain ⟨v', h1, h2⟩ := hr i v hv
    refine ⟨v', ?_, h2.mono (Sub.rupd _ hb)⟩
    rw [add_plain rfl]
    simpa using h1
  · exact ⟨rfl, h1, cs', t, heap_alloc_new _ _, by simpa using h2⟩
  · intro c l k hc hl hk hd
    rw [rupd_ne _ hc] at hl
    rw [gupd_ne _ hc] at hk
    refine ⟨hl, hk, fun hn => ?_⟩
    have := h.block_lt hl hk hd hn
    exact Nat.ne_of_lt this
  · intro g _ hg
    exact heap_alloc_old _ _ hg
theorem HR.alloc (h : HR ρ G w) {b : Nat} {cs : List Value} {cs' : Array Value} {t : TypeId} (hr : VL ρ cs cs'.toList) (hb : ρ b = none) :
    HR (rupd ρ b ⟨⟨w.heap.size, 0, none⟩, cs.length⟩) (gupd G b ⟨cs, .own⟩) (w.alloc (.cells cs' t)) :=
  h.alloc_room (fun i v hv => by obtain ⟨v', h1, h2⟩ := hr.get hv; exact ⟨v', by simpa using h1, h2⟩) (Nat.le_refl _) (by have := hr.1; simp at this; omega) hb

theorem HR.kill (h : HR ρ G w) (b : Nat) : HR ρ (gupd G b ⟨[], .dead⟩) w := by
  have key : ∀ c k, gupd G b ⟨[], .dead⟩ c = some k → k.st ≠ .dead → G c = some k := by
    intro c k hk hd
    by_cases e : c = b
    · subst e; rw [gupd_same] at hk; cases hk; simp at hd
    · rwa [gupd_ne _ e] at hk
  exact ⟨fun c l k hl hk hd => h.cell c l k hl (key c k hk hd) hd, fun c l k hl hk ho => h.own c l k hl (key c k hk (by rw [ho]; simp)) ho,
    fun c c' l l' k k' hne hl hl' hk hk' ho hd hn => h.inj c c' l l' k k' hne hl hl' (key c k hk (by rw [ho]; simp)) (key c' k' hk' hd) ho hd hn⟩

theorem mkv_rel {i : Option (Nat × Nat)} {b g n : Nat} (hb : ρ b = some ⟨⟨g, 0, none⟩, n⟩) (hi : ∀ m s, i = some (m, s) → m * s ≤ n) : VR ρ (mkv i b) (mkc i g) := by
  cases i with
  | none =>
    have := VR.ptr (o := 0) hb
    rwa [add_zero] at this
  | some p =>
    obtain ⟨m, s⟩ := p
    exact .sl (Nat.le_refl _) hb (.inr ⟨by rw [add_zero], by simpa using hi m s rfl⟩)

theorem Stp.alloc {H : AH} (b : Blk) {l : Loc} {o : Obj} (hl : l.base.block = w.heap.size) :
    Stp H.length (H.length + 1) ρ H.get w (rupd ρ H.length l) (AH.get (H ++ [b])) (w.alloc o) := by
  rw [get_append]
  refine ⟨by omega, ?_, ?_, ?_, ?_, ?_, ?_, rfl, rfl, rfl⟩
  · intro c hc
    exact rupd_ne _ (by omega)
  · intro c hc _
    exact gupd_ne _ (by omega)
  · intro c k hc hk ho
    rw [gupd_ne _ (by omega)] at hk
    exact ⟨k, hk, rfl, rfl⟩
  · intro c l' h1 h2 hl'
    have : c = H.length := by omega
    subst this
    rw [rupd_same] at hl'
    cases hl'
    exact .inl (by rw [hl]; exact Nat.le_refl _)
  · intro g hg _
    exact heap_alloc_old _ _ hg
  · simp

/-! ### stores -/
def splice : List Value → Nat → List Value → List Value
  | cs, _, [] => cs
  | cs, o, v :: vs => splice (cs.set o v) (o + 1) vs
theorem splice_length : ∀ (vs cs : List Value) (o : Nat), (splice cs o vs).length = cs.length
  | [], _, _ => rfl
  | v :: vs, cs, o => by rw [splice, splice_length vs]; simp
theorem splice_get : ∀ (vs cs : List Value) (o i : Nat), o + vs.length ≤ cs.length → (splice cs o vs)[i]? = if o ≤ i ∧ i < o + vs.length then vs[i - o]? else cs[i]?
  | [], cs, o, i, _ => by simp [splice]; omega
  | v :: vs, cs, o, i, h => by
    simp only [List.length_cons] at h
    rw [splice, splice_get vs _ (o + 1) i (by simp; omega)]
    by_cases h1 : o + 1 ≤ i ∧ i < o + 1 + vs.length
    · rw [if_pos h1, if_pos (by simp; omega)]
      rw [show i - o = (i - (o + 1)) + 1 by omega]
      simp
    · rw [if_neg h1]
      by_cases h2 : i = o
      · subst h2
        rw [List.getElem?_set_self (by omega), if_pos (by simp)]
        simp
      · rw [List.getElem?_set_ne (by omega), if_neg (by simp; omega)]

theorem oneCell_leaf (v : Value) : v.oneCell' = leaf v := by cases v <;> rfl

theorem setCells_block (g : Nat) : ∀ (vs : List Value) (o : Nat) (w : World) {c : Array Value} {t : TypeId} {fr : Nat × Nat}, w.heap[g]? = some (.cells c t fr) →
    ∃ c', (w.setCells g o vs).heap[g]? = some (.cells c' t fr) ∧ c'.size = c.size
  | [], _, w, c, t, fr, h => ⟨c, h, rfl⟩
  | v :: vs, o, w, c, t, fr, h => by
    have h1 : (w.setCell ⟨g, o, none⟩ v).heap[g]? = some (.cells (c.setIfInBounds o v) t fr) := by
      simp only [World.setCell, Array.getElem?_modify, if_true, h]
      simp
    obtain ⟨c', h2, h3⟩ := setCells_block g vs (o + 1) _ h1
    exact ⟨c', h2, by rw [h3]; simp⟩
theorem setCells_other (g : Nat) : ∀ (vs : List Value) (o : Nat) (w : World) (k : Nat), k ≠ g → (w.setCells g o vs).heap[k]? = w.heap[k]?
  | [], _, w, k, _ => rfl
  | v :: vs, o, w, k, h => by
    rw [World.setCells, setCells_other g vs (o + 1) _ k h]
    simp only [World.setCell, Array.getElem?_modify]
    rw [if_neg (Ne.symm h)]
theorem setCells_rest (g : Nat) : ∀ (vs : List Value) (o : Nat) (w : World), (w.setCells g o vs).os = w.os ∧ (w.setCells g o vs).tape = w.tape ∧ (w.setCells g o vs).output = w.output ∧ (w.setCells g o vs).heap.size = w.heap.size
  | [], _, w => ⟨rfl, rfl, rfl, rfl⟩
  | v :: vs, o, w => by
    obtain ⟨a, b, c, d⟩ := setCells_rest g vs (o + 1) (w.setCell ⟨g, o, none⟩ v)
    exact ⟨a, b, c, by rw [World.setCells, d]; simp⟩

def aStore (P : Program) (t : TypeId) (a v : Value) (H : AH) : Option AH :=
  match a with
  | .pointer (some ⟨b, o, none⟩) =>
    match H[b]? with
    | some ⟨cs, .own⟩ => if szOf P t = some v.cells.size ∧ v.cells.toList.all leaf = true ∧ o + v.cells.size ≤ cs.length then some (H.set b ⟨splice cs o v.cells.toList, .own⟩) else none
    | _ => none
  | _ => none

theorem VL.all_leaf {xs ys : List Value} (h : VL ρ xs ys) (hl : xs.all leaf = true) : ∀ v ∈ ys, v.oneCell' = true := by
  intro v hv
  obtain ⟨i, hi⟩ := List.mem_iff_getElem?.1 hv
  have hlt : i < xs.length := by rw [h.1]; exact (List.getElem?_eq_some_iff.1 hi).1
  have hr := h.2 i xs[i] v (List.getElem?_eq_getElem hlt) hi
  rw [oneCell_leaf, leaf_eq hr]
  rw [List.all_eq_true] at hl
  exact hl _ (List.getElem_mem hlt)

/-- Cells of an own block are written. -/
theorem HR.write (h : HR ρ G w) {b : Nat} {l : Loc} {k : Blk} (hb : ρ b = some l) (hk : G b = some k) (ho : k.st = .own) {o : Nat} {vs vs' : List Value} (hr : VL ρ vs vs') (hle : o + vs.length ≤ k.cells.length) :
    HR ρ (gupd G b ⟨splice k.cells o vs, .own⟩) (w.setCells l.base.block (l.base.off + o) vs') := by
  obtain ⟨hsp, hn, cs, t, hheap, hsz⟩ := h.own b l k hb hk ho
  have hl' : vs'.length = vs.length := hr.1.symm
  have hsome : ∀ j, j < k.cells.length → (w.cell? ⟨l.base.block, l.base.off + j, none⟩).isSome = true := by
    intro j hj
    simp only [World.cell?, hheap]
    simp
    omega
  refine h.target (Sub.refl ρ) b l _ hb (gupd_same ..) ?_ ?_ ?_ ?_
  · intro i v hv
    simp only at hv
    rw [splice_get _ _ _ _ hle] at hv
    rw [add_plain hsp]
    by_cases hi : o ≤ i ∧ i < o + vs.length
    · rw [if_pos hi] at hv
      obtain ⟨v', h1, h2⟩ := hr.get hv
      refine ⟨v', ?_, h2⟩
      have := World.cell?_setCells_in l.base.block vs' (l.base.off + o) w (fun j hj => by
        have := hsome (o + j) (by omega)
        rwa [← Nat.add_assoc] at this) (i - o) (by omega)
      rw [show l.base.off + o + (i - o) = l.base.off + i by omega] at this
      rw [this]
      rw [List.getElem?_eq_getElem (by omega)] at h1
      exact h1
    · rw [if_neg hi] at hv
      obtain ⟨v', h1, h2⟩ := h.cell b l k hb hk (by rw [ho]; simp) i v hv
      refine ⟨v', ?_, h2⟩
      rw [World.cell?_setCells_out]
      · rwa [add_plain hsp] at h1
      · intro _ _
        simp only
        omega
  · refine ⟨hsp, by simp only [splice_length]; exact hn, ?_⟩
    obtain ⟨c', h1, h2⟩ := setCells_block l.base.block vs' (l.base.off + o) w hheap
    exact ⟨c', t, h1, by rw [h2]; exact hsz⟩
  · intro c l' k' hc hl2 hk2 hd
    rw [gupd_ne _ hc] at hk2
    refine ⟨hl2, hk2, fun hnn => ?_⟩
    exact (h.inj b c l l' k k' (Ne.symm hc) hb hl2 hk hk2 ho hd hnn).symm
  · intro g hg _
    exact setCells_other _ _ _ _ _ hg

theorem Stp.write {H : AH} {b : Nat} {l : Loc} {k k' : Blk} (hb : ρ b = some l) (hk : AH.get H b = some k) (ho : k.st = .own) (hs : k'.st = .own) (hlen : k'.cells.length = k.cells.length) {o : Nat} {vs : List Value} :
    Stp H.length H.length ρ H.get w ρ (gupd (AH.get H) b k') (w.setCells l.base.block o vs) := by
  obtain ⟨a1, a2, a3, a4⟩ := setCells_rest l.base.block vs o w
  refine ⟨Nat.le_refl _, fun _ _ => rfl, ?_, ?_, fun c l' h1 h2 => by omega, ?_, by omega, a1, a2, a3⟩
  · intro c _ hn
    refine gupd_ne _ ?_
    rintro rfl
    rw [hb] at hn; cases hn
  · intro c k2 hc hk2 ho2
    by_cases e : c = b
    · subst e; rw [gupd_same] at hk2; cases hk2; exact ⟨k, hk, ho.trans hs.symm, hlen.symm⟩
    · rw [gupd_ne _ e] at hk2; exact ⟨k2, hk2, rfl, rfl⟩
  · intro g hg hf
    exact setCells_other _ _ _ _ _ (Ne.symm (hf b l k hb hk ho))

theorem store_sound {H H' : AH} (h : HR ρ H.get w) {t : Nat} {a a' v v' : Value} (ha : VR ρ a a') (hv : VR ρ v v') (hs : aStore P t a v H = some H') :
    H'.length = H.length ∧ ∃ w', (Instr.storeAt t a' v').run P w = .ok () w' ∧ HR ρ H'.get w' ∧ Stp H.length H'.length ρ H.get w ρ H'.get w' := by
  unfold aStore at hs
  split at hs
  case h_2 => cases hs
  rename_i b o
  split at hs
  case h_2 => cases hs
  rename_i cs hH
  split at hs
  case isFalse => cases hs
  rename_i hc
  obtain ⟨hsz, hleaf, hle⟩ := hc
  cases hs
  refine ⟨by simp, ?_⟩
  have hblt : b < H.length := (List.getElem?_eq_some_iff.1 hH).1
  cases ha with
  | @ptr _ _ l hb =>
    have hr := hv.cells
    have hw := h.write (k := ⟨cs, .own⟩) hb hH rfl hr (by simpa using hle)
    obtain ⟨hsp, hn, cs', t', hheap, hbig⟩ := h.own b l ⟨cs, .own⟩ hb hH rfl
    simp only at hn hle
    have hlen : v'.cells.toList.length = v.cells.toList.length := hr.1.symm
    have hlen2 : v'.cells.size = v.cells.size := by simpa using hlen
    have hrun := run_storeCells_cells (P := P) l.base.block (l.base.off + o) v'.cells.toList 0 w
      (fun j hj => by simp only [World.cell?, hheap]; simp; simp at hj; omega)
      (fun j hj => by simp [World.frozen?, hheap])
      (hr.all_leaf hleaf)
    refine ⟨_, ?_, by rw [get_set _ hblt]; exact hw, ?_⟩
    · simp only [Instr.storeAt, Instr.sureAddr, storeVar, Sem.run_bind, Sem.run_pure, Result.andThen_ok, run_sizeOf hsz, hlen2, ne_eq, not_true_eq_false, if_false, add_plain hsp]
      rw [Nat.add_zero] at hrun
      exact hrun
    · simp only [List.length_set]
      rw [get_set _ hblt]
      exact Stp.write hb hH rfl rfl (splice_length _ _ _)
end
end Go.Proofs.Ytdagncfnkenbfaa.AM
/- The abstract machine, tenth part: append. -/
namespace Go.Proofs.Ytdagncfnkenbfaa.AM
open Go

def kill (s : Value) (H : AH) : AH :=
  match s with
  | .slice (some a) _ _ => H.set a.block ⟨[], .dead⟩
  | _ => H
def ownOk (s : Value) (z : Nat) (H : AH) : Bool :=
  match s with
  | .slice none _ _ => true
  | .slice (some ⟨b, _, none⟩) _ c => c == z && (match H[b]? with | some ⟨_, .own⟩ => true | _ => false)
  | _ => false

def aNews (P : Program) (tx : TypeId) (x : Value) (z : Nat) (G : Hp) : Option (List Value × Nat) :=
  match P.underlying tx, x with
  | some (.slice _), .slice _ n _ => (aCells x z G).map fun l => (l, n)
  | some .string, .string s => if z = 1 then some (byteCells s, s.size) else none
  | _, _ => none

def aAppend0 (P : Program) (ts : Array TypeId) (xs : Array Value) (H : AH) : Option (Value × AH) :=
  match (ts[0]? : Option TypeId), (ts[1]? : Option TypeId), (xs[0]? : Option Value), (xs[1]? : Option Value) with
  | some t, some tx, some (.slice a n c), some x =>
    match P.underlying t with
    | some (.slice e) =>
      match P.info? e with
      | some i =>
        match i.zero with
        | some z =>
          if i.bytes ≤ 1024 ∧ z.cells.size = i.size then
            match aCells (.slice a n c) i.size H.get, aNews P tx x i.size H.get with
            | some olds, some (news, m) =>
              if m = 0 then some (.slice a n c, H)
              else if n + m ≤ 1073741824 ∧ news.all leaf = true ∧ ownOk (.slice a n c) i.size H = true then
                some (.slice (some ⟨H.length, 0, none⟩) (n + m) i.size, kill (.slice a n c) H ++ [⟨olds ++ news, .own⟩])
              else none
            | _, _ => none
          else none
        | none => none
      | none => none
    | _ => none
  | _, _, _, _ => none

/-- append, also of so many noughts behind nothing. -/
def aAppend (P : Program) (ts : Array TypeId) (xs : Array Value) (H : AH) : Option (Value × AH) :=
  match (xs[1]? : Option Value), (ts[0]? : Option TypeId), (ts[1]? : Option TypeId), (xs[0]? : Option Value) with
  | some (.int _ n), some t, some tx, some (.slice none 0 0) =>
    match P.underlying t, P.underlying tx with
    | some (.slice e), some (.int _) =>
      match P.info? e with
      | some i =>
        match i.zero with
        | some z =>
          if i.bytes ≤ 1024 ∧ z.cells.size = i.size ∧ 0 < i.size ∧ 0 < n ∧ n ≤ 1073741824 ∧ z.cells.all closed1 = true then
            some (.slice (some ⟨H.length, 0, none⟩) n.toNat i.size, H ++ [⟨(Builtin.zeroCells z.cells n.toNat).toList, .own⟩])
          else none
        | none => none
      | none => none
    | _, _ => none
  | _, _, _, _ => aAppend0 P ts xs H

section
variable {P : Program} {ρ : Rho} {w : World}

theorem news_src {G : Hp} (h : HR ρ G w) {tx : TypeId} {x x' : Value} {z m : Nat} {news : List Value} (hx : VR ρ x x') (hn : aNews P tx x z G = some (news, m)) (hl : news.all leaf = true) :
    news.length = m * z ∧ ∃ news', VL ρ news news' ∧ Src P z tx x' m news' w := by
  unfold aNews at hn
  split at hn
  · rename_i e a n c hu
    simp only [Option.map_eq_some_iff, Prod.mk.injEq] at hn
    obtain ⟨l, hc, rfl, rfl⟩ := hn
    obtain ⟨a, n, c, c', a', e1, e2, hlen, cs', hr, hfc, _, _⟩ := aCells_sound (P := P) h hx hc
    cases e1
    subst e2
    refine ⟨hlen, cs', hr, ⟨.inl ⟨_, hu⟩, fun _ => rfl, hfc w rfl, hfc w.drew rfl, by rw [← hr.1]; exact hlen, hr.all_leaf hl⟩⟩
  · rename_i s hu
    split at hn
    case isFalse => cases hn
    rename_i hz
    cases hn
    cases hx
    subst hz
    refine ⟨by rw [byteCells_length, Nat.mul_one], byteCells s, ?_, Src.ofString w hu s⟩
    exact VL.map (fun b => .int _ _) _
  · cases hn

theorem kill_length (s : Value) (H : AH) : (kill s H).length = H.length := by unfold kill; split <;> simp
theorem kill_get (a : Option Addr) (n c : Nat) (H : AH) (hb : ∀ ad, a = some ad → ad.block < H.length) : AH.get (kill (.slice a n c) H) = match a with | some ad => gupd (AH.get H) ad.block ⟨[], .dead⟩ | none => AH.get H := by
  cases a with
  | none => rfl
  | some ad => exact get_set _ (hb ad rfl)

theorem append_sound0 {H H' : AH} (h : HR ρ H.get w) {ts : Array TypeId} {ty : TypeId} {xs xs' : Array Value} {v : Value} (hx : VL ρ xs.toList xs'.toList) (hxs : ts.size = 2 ∧ xs.size = 2) (ha : aAppend0 P ts xs H = some (v, H'))
    (hf : ∀ b, H.length ≤ b → b < H'.length → ρ b = none) :
    ∃ v' w' ρ', (Builtin.append_ ts ty xs').run P w = .ok v' w' ∧ VR ρ' v v' ∧ HR ρ' H'.get w' ∧ Stp H.length H'.length ρ H.get w ρ' H'.get w' := by
  unfold aAppend0 at ha
  split at ha
  case h_2 => cases ha
  rename_i t tx a n c x ht htx hs0 hx0
  split at ha
  case h_2 => cases ha
  rename_i e hu
  split at ha
  case h_2 => cases ha
  rename_i i hi
  split at ha
  case h_2 => cases ha
  rename_i z hz
  split at ha
  case isFalse => cases ha
  rename_i hby
  obtain ⟨hby, hzs⟩ := hby
  split at ha
  case h_2 => cases ha
  rename_i olds news m holds hnews
  -- the arguments, in the model
  have hts : ts = #[t, tx] := by
    apply Array.ext
    · simp [hxs.1]
    · intro j h1 h2
      simp at h2
      have : j = 0 ∨ j = 1 := by omega
      rcases this with rfl | rfl
      · simpa [Array.getElem?_eq_getElem h1] using ht
      · simpa [Array.getElem?_eq_getElem h1] using htx
  obtain ⟨s', hs', hrs⟩ := hx.get (i := 0) (by simpa using hs0)
  obtain ⟨x', hx', hrx⟩ := hx.get (i := 1) (by simpa using hx0)
  have hxe : xs' = #[s', x'] := by
    have hsz : xs'.size = 2 := by have := hx.1; simp at this; omega
    apply Array.ext
    · simp [hsz]
    · intro j h1 h2
      simp at h2
      have : j = 0 ∨ j = 1 := by omega
      rcases this with rfl | rfl
      · simpa [Array.getElem?_eq_getElem h1] using hs'
      · simpa [Array.getElem?_eq_getElem h1] using hx'
  subst hts
  subst hxe
  obtain ⟨a1, n1, c1, c', a', e1, rfl, hlo, olds', hro, hfo, hco, hno⟩ := aCells_sound (P := P) h hrs holds
  cases e1
  have hnc : n ≤ c' := by
    cases hrs with
    | nils => exact Nat.le_refl _
    | sl hn _ _ => exact hn
  split at ha
  · -- nothing is appended
    rename_i hm
    subst hm
    cases ha
    have hnl : news = [] := by
      unfold aNews at hnews
      split at hnews
      · simp only [Option.map_eq_some_iff, Prod.mk.injEq] at hnews
        obtain ⟨l, hc, rfl, rfl⟩ := hnews
        obtain ⟨_, _, _, _, _, e1, _, hlen, _⟩ := aCells_sound (P := P) h hrx hc
        cases e1
        exact List.eq_nil_of_length_eq_zero (by simpa using hlen)
      · split at hnews
        · simp only [Option.some.injEq, Prod.mk.injEq] at hnews
          obtain ⟨rfl, h0⟩ := hnews
          exact List.eq_nil_of_length_eq_zero (by rw [byteCells_length]; exact h0)
        · cases hnews
      · cases hnews
    subst hnl
    obtain ⟨_, news', hrn, hsrc⟩ := news_src (P := P) h hrx hnews rfl
    have : news' = [] := List.eq_nil_of_length_eq_zero (by rw [← hrn.1]; rfl)
    subst this
    exact ⟨_, w, ρ, run_append_nothing (P := P) w t tx ty e i hu hi a' n c' hnc x' hsrc, hrs, h, Stp.refl ..⟩
  · rename_i hm
    split at ha
    case isFalse => cases ha
    rename_i hcond
    obtain ⟨hbig, hleaf, hown⟩ := hcond
    cases ha
    obtain ⟨hln, news', hrn, hsrc⟩ := news_src (P := P) h hrx hnews hleaf
    have hfr : ρ H.length = none := hf _ (Nat.le_refl _) (by simp [kill_length])
    have hblk : ∀ ad, a = some ad → ad.block < H.length := by
      rintro ad rfl
      unfold ownOk at hown
      split at hown <;> rename_i he
      · cases he
      · cases he
        simp only [Bool.and_eq_true] at hown
        obtain ⟨_, h2⟩ := hown
        split at h2
        · rename_i h3; exact (List.getElem?_eq_some_iff.1 h3).1
        · cases h2
      · cases hown
    have hHR1 : HR ρ (AH.get (kill (.slice a n c) H)) w := by
      rw [kill_get a n c H hblk]
      cases a with
      | none => exact h
      | some ad => exact h.kill _
    have hget : AH.get (kill (.slice a n c) H ++ [⟨olds ++ news, .own⟩]) = gupd (AH.get (kill (.slice a n c) H)) H.length ⟨olds ++ news, .own⟩ := by
      rw [get_append, kill_length]
    have hlen' : (kill (.slice a n c) H ++ [(⟨olds ++ news, .own⟩ : Blk)]).length = H.length + 1 := by simp [kill_length]
    have hkeep : ∀ b, b < H.length → ρ b = none → AH.get (kill (.slice a n c) H) b = AH.get H b := by
      intro b hb hn
      rw [kill_get a n c H hblk]
      cases a with
      | none => rfl
      | some ad =>
        simp only
        refine gupd_ne _ ?_
        rintro rfl
        cases hrs with
        | sl _ hb' _ => rw [hb'] at hn; cases hn
    have hst : ∀ b k', AH.get (kill (.slice a n c) H) b = some k' → k'.st ≠ .dead → AH.get H b = some k' := by
      intro b k' hk ho
      rw [kill_get a n c H hblk] at hk
      cases a with
      | none => exact hk
      | some ad =>
        simp only at hk
        by_cases e2 : b = ad.block
        · subst e2; rw [gupd_same] at hk; cases hk; simp at ho
        · rwa [gupd_ne _ e2] at hk
    have hzc : ∀ c2 : Nat, (Builtin.zeroCells z.cells c2).size = c2 * i.size := fun c2 => by rw [size_zeroCells, hzs]
    by_cases hroom : n + m ≤ c'
    · -- in place
      cases hrs with
      | nils => omega
      | @sl b o _ _ _ x l hnn hb hor =>
        rcases hor with h0 | ⟨rfl, hfit⟩
        · omega
        · simp only [ownOk, Bool.and_eq_true, beq_iff_eq] at hown
          obtain ⟨rfl, hown⟩ := hown
          split at hown
          case h_2 => cases hown
          rename_i kcs hH
          obtain ⟨hsp, hkn, cs, tt, hheap, hcs⟩ := h.own b l ⟨kcs, .own⟩ hb hH rfl
          simp only at hkn
          have hadd : l.base.add o = ⟨l.base.block, l.base.off + o, none⟩ := add_plain hsp o
          have hln' : news'.length = m * i.size := by rw [← hrn.1]; exact hln
          have hmul : (n + m) * i.size ≤ c' * i.size := Nat.mul_le_mul_right _ hroom
          rw [Nat.add_mul] at hmul
          have hrun := run_append_room_src (P := P) w t tx ty e i hu hi l.base.block (l.base.off + o) n c' x' m news' hsrc hroom
            (fun j hj => by simp only [World.cell?, hheap]; simp; omega) (fun j hj => by simp [World.frozen?, hheap])
          rw [← hadd] at hrun
          refine ⟨_, _, rupd ρ H.length ⟨l.base.add o, c' * i.size⟩, hrun, ?_, ?_, ?_⟩
          · exact .sl hroom (rupd_same ..) (.inr ⟨by rw [add_zero], by simp⟩)
          · rw [hget]
            refine hHR1.target (Sub.rupd _ hfr) H.length ⟨l.base.add o, c' * i.size⟩ ⟨olds ++ news, .own⟩ (rupd_same ..) (gupd_same ..) ?_ ?_ ?_ ?_
            · intro j v hv
              simp only at hv
              rw [hadd, add_plain rfl]
              simp only
              by_cases hj : j < olds.length
              · rw [List.getElem?_append_left hj] at hv
                obtain ⟨v', h1, h2⟩ := hro.get hv
                have h3 := hco _ rfl j v' h1
                refine ⟨v', ?_, h2.mono (Sub.rupd _ hfr)⟩
                rw [World.cell?_setCells_out]
                · rw [hadd, add_plain rfl] at h3; exact h3
                · intro _ _
                  simp only
                  omega
              · rw [List.getElem?_append_right (by omega)] at hv
                obtain ⟨v', h1, h2⟩ := hrn.get hv
                refine ⟨v', ?_, h2.mono (Sub.rupd _ hfr)⟩
                have hjl : j - olds.length < news'.length := (List.getElem?_eq_some_iff.1 h1).1
                have := World.cell?_setCells_in l.base.block news' (l.base.off + o + n * i.size) w (fun j' hj' => by simp only [World.cell?, hheap]; simp; omega) (j - olds.length) hjl
                rw [show l.base.off + o + n * i.size + (j - olds.length) = l.base.off + o + j by omega] at this
                rw [this]
                rw [List.getElem?_eq_getElem hjl] at h1
                exact h1
            · refine ⟨by rw [hadd], by simp only [List.length_append]; omega, ?_⟩
              obtain ⟨c2, h1, h2⟩ := setCells_block l.base.block news' (l.base.off + o + n * i.size) w hheap
              refine ⟨c2, tt, by rw [add_block]; exact h1, ?_⟩
              rw [hadd, h2]
              simp only
              omega
            · intro c2 l2 k2 hc2 hl2 hk2 hd2
              rw [rupd_ne _ hc2] at hl2
              rw [gupd_ne _ hc2] at hk2
              refine ⟨hl2, hk2, fun hn2 => ?_⟩
              rw [add_block]
              rw [kill_get _ _ _ H hblk] at hk2
              simp only at hk2
              have hne : c2 ≠ b := by
                rintro rfl
                rw [gupd_same] at hk2
                cases hk2
                simp at hd2
              rw [gupd_ne _ hne] at hk2
              exact (h.inj b c2 l l2 _ k2 (Ne.symm hne) hb hl2 hH hk2 rfl hd2 hn2).symm
            · intro g hg _
              rw [add_block] at hg
              exact setCells_other _ _ _ _ _ hg
          · obtain ⟨q1, q2, q3, q4⟩ := setCells_rest l.base.block news' (l.base.off + o + n * i.size) w
            rw [hlen', hget]
            refine ⟨by omega, fun c2 hc2 => rupd_ne _ (by omega), ?_, ?_, ?_, ?_, by omega, q1, q2, q3⟩
            · intro b2 hb2 hn2
              rw [gupd_ne _ (by omega)]
              exact hkeep b2 hb2 hn2
            · intro b2 k2 hb2 hk2 ho2
              rw [gupd_ne _ (by omega)] at hk2
              exact ⟨k2, hst b2 k2 hk2 ho2, rfl, rfl⟩
            · intro b2 l2 h1 h2 hl2
              have : b2 = H.length := by omega
              subst this
              rw [rupd_same] at hl2
              cases hl2
              exact .inr ⟨b, l, _, hb, hH, rfl, by rw [add_block]⟩
            · intro g hg hff
              exact setCells_other _ _ _ _ _ (Ne.symm (hff b l _ hb hH rfl))
    · -- a new row
      have hbytes : (n + m) * i.bytes ≤ 140737488355328 := by
        have : (n + m) * i.bytes ≤ 1073741824 * 1024 := Nat.mul_le_mul hbig hby
        omega
      have hrun := run_append_grow_src (P := P) w t tx ty e i z hu hi hz a' n c' olds' (hfo w.drew rfl) x' m news' hsrc (by omega) (by omega) (growslice_fits (by omega) hbytes)
      have hge := grownCap_ge w (n + m) c' e
      have hHRd : HR ρ (AH.get (kill (.slice a n c) H)) w.drew := hHR1.world rfl
      have hol : olds'.length = n * i.size := by rw [← hro.1]; exact hlo
      have hnl : news'.length = m * i.size := by rw [← hrn.1]; exact hln
      have hvl := (hro.append hrn)
      have hA := hHRd.alloc_room (b := H.length) (n := grownCap w (n + m) c' e * i.size) (cs := olds ++ news) (cs' := (olds' ++ news').toArray ++ Builtin.zeroCells z.cells (grownCap w (n + m) c' e - (n + m))) (t := e)
        (fun j v hv => by
          obtain ⟨v', h1, h2⟩ := hvl.get hv
          refine ⟨v', ?_, h2⟩
          rw [Array.getElem?_append_left (by simpa using (List.getElem?_eq_some_iff.1 h1).1)]
          simpa using h1)
        (by simp only [List.length_append, hlo, hln]; rw [← Nat.add_mul]; exact Nat.mul_le_mul_right _ hge)
        (by
          simp only [Array.size_append, List.size_toArray, List.length_append, hol, hnl, hzc]
          rw [← Nat.add_mul, ← Nat.add_mul]
          exact Nat.mul_le_mul_right _ (by omega)) hfr
      refine ⟨_, _, _, hrun, ?_, by rw [hget]; exact hA, ?_⟩
      · exact .sl hge (rupd_same ..) (.inr ⟨by rw [add_zero]; rfl, by simp⟩)
      · rw [hlen', hget]
        refine ⟨by omega, fun c2 hc2 => rupd_ne _ (by omega), ?_, ?_, ?_, ?_, by simp, rfl, rfl, rfl⟩
        · intro b2 hb2 hn2
          rw [gupd_ne _ (by omega)]
          exact hkeep b2 hb2 hn2
        · intro b2 k2 hb2 hk2 ho2
          rw [gupd_ne _ (by omega)] at hk2
          exact ⟨k2, hst b2 k2 hk2 ho2, rfl, rfl⟩
        · intro b2 l2 h1 h2 hl2
          have : b2 = H.length := by omega
          subst this
          rw [rupd_same] at hl2
          cases hl2
          exact .inl (Nat.le_refl _)
        · intro g hg _
          exact heap_alloc_old _ _ hg
theorem zeroCells_closed {z : Array Value} (h : z.all closed1 = true) (n : Nat) : (Builtin.zeroCells z n).all closed1 = true := zfill_closed h (n * z.size)
theorem append_sound {H H' : AH} (h : HR ρ H.get w) {ts : Array TypeId} {ty : TypeId} {xs xs' : Array Value} {v : Value} (hx : VL ρ xs.toList xs'.toList) (hxs : ts.size = 2 ∧ xs.size = 2) (ha : aAppend P ts xs H = some (v, H'))
    (hf : ∀ b, H.length ≤ b → b < H'.length → ρ b = none) :
    ∃ v' w' ρ', (Builtin.append_ ts ty xs').run P w = .ok v' w' ∧ VR ρ' v v' ∧ HR ρ' H'.get w' ∧ Stp H.length H'.length ρ H.get w ρ' H'.get w' := by
  unfold aAppend at ha
  split at ha
  case h_2 => exact append_sound0 h hx hxs ha hf
  rename_i kx n t tx hx0 ht htx hs0
  split at ha
  case h_2 => cases ha
  rename_i e kn hu hux
  split at ha
  case h_2 => cases ha
  rename_i i hi
  split at ha
  case h_2 => cases ha
  rename_i z hz
  split at ha
  case isFalse => cases ha
  rename_i hcond
  obtain ⟨hby, hzs, hs0', hn0, hn1, hcl⟩ := hcond
  cases ha
  have hts : ts = #[t, tx] := by
    apply Array.ext
    · simp [hxs.1]
    · intro j h1 h2
      simp at h2
      have : j = 0 ∨ j = 1 := by omega
      rcases this with rfl | rfl
      · simpa [Array.getElem?_eq_getElem h1] using ht
      · simpa [Array.getElem?_eq_getElem h1] using htx
  obtain ⟨s', hs', hrs⟩ := hx.get (i := 0) (by simpa using hs0)
  obtain ⟨x', hx', hrx⟩ := hx.get (i := 1) (by simpa using hx0)
  have hxe : xs' = #[s', x'] := by
    have hsz : xs'.size = 2 := by have := hx.1; simp at this; omega
    apply Array.ext
    · simp [hsz]
    · intro j h1 h2
      simp at h2
      have : j = 0 ∨ j = 1 := by omega
      rcases this with rfl | rfl
      · simpa [Array.getElem?_eq_getElem h1] using hs'
      · simpa [Array.getElem?_eq_getElem h1] using hx'
  subst hts
  subst hxe
  cases hrs
  cases hrx
  obtain ⟨m, rfl⟩ : ∃ m : Nat, n = m := ⟨n.toNat, by omega⟩
  have hm0 : 0 < m := by omega
  have hbytes : m * i.bytes ≤ 140737488355328 := by
    have : m * i.bytes ≤ 1073741824 * 1024 := Nat.mul_le_mul (by omega) hby
    omega
  have hrun := Lib.run_append_nil_zeros (P := P) w t tx ty e i z kx kn hu hux hi hz m hm0 hs0' (by omega) (by omega)
  have hge := grownCap_ge w m 0 e
  have hfr : ρ H.length = none := hf _ (Nat.le_refl _) (by simp)
  have hHRd : HR ρ (AH.get H) w.drew := h.world rfl
  have hzc : ∀ c2 : Nat, (Builtin.zeroCells z.cells c2).size = c2 * i.size := fun c2 => by rw [size_zeroCells, hzs]
  have hvl : VL ρ (Builtin.zeroCells z.cells m).toList (Builtin.zeroCells z.cells m).toList := VL_closed (zeroCells_closed hcl m)
  have hA := hHRd.alloc_room (b := H.length) (n := grownCap w m 0 e * i.size) (cs := (Builtin.zeroCells z.cells m).toList) (cs' := Builtin.zeroCells z.cells m ++ Builtin.zeroCells z.cells (grownCap w m 0 e - m)) (t := e)
    (fun j v hv => by
      obtain ⟨v', h1, h2⟩ := hvl.get hv
      refine ⟨v', ?_, h2⟩
      rw [Array.getElem?_append_left (by simpa using (List.getElem?_eq_some_iff.1 h1).1)]
      simpa using h1)
    (by simp only [Array.length_toList, hzc]; exact Nat.mul_le_mul_right _ hge)
    (by
      simp only [Array.size_append, hzc]
      rw [← Nat.add_mul]
      exact Nat.mul_le_mul_right _ (by omega)) hfr
  have hget : AH.get (H ++ [⟨(Builtin.zeroCells z.cells m).toList, .own⟩]) = gupd (AH.get H) H.length ⟨(Builtin.zeroCells z.cells m).toList, .own⟩ := get_append ..
  simp only [Int.toNat_natCast]
  refine ⟨_, _, _, hrun, ?_, by rw [hget]; exact hA, ?_⟩
  · exact .sl hge (rupd_same ..) (.inr ⟨by rw [add_zero]; rfl, by simp⟩)
  · rw [hget]
    have hlen' : (H ++ [(⟨(Builtin.zeroCells z.cells m).toList, .own⟩ : Blk)]).length = H.length + 1 := by simp
    rw [hlen']
    refine ⟨by omega, fun c2 hc2 => rupd_ne _ (by omega), ?_, ?_, ?_, ?_, by simp, rfl, rfl, rfl⟩
    · intro b2 hb2 hn2
      rw [gupd_ne _ (by omega)]
    · intro b2 k2 hb2 hk2 ho2
      rw [gupd_ne _ (by omega)] at hk2
      exact ⟨k2, hk2, rfl, rfl⟩
    · intro b2 l2 h1 h2 hl2
      have : b2 = H.length := by omega
      subst this
      rw [rupd_same] at hl2
      cases hl2
      exact .inl (Nat.le_refl _)
    · intro g hg _
      exact heap_alloc_old _ _ hg
end
end Go.Proofs.Ytdagncfnkenbfaa.AM
