/- Lemmas that lead to the statement: a run of the machine does not care where in the heap it begins. -/
import Derived.Test.YtmgehmhebnjaaaaGreatDoorM3
set_option linter.all false
set_option linter.unusedVariables false
set_option linter.unusedSimpArgs false
set_option linter.unusedSectionVars false
namespace Dm
open Go

def shA (s : Nat) : Option Addr → Option Addr
  | none => none
  | some ⟨b, o, sp⟩ => some ⟨b + s, o, sp⟩
def shF (s : Nat) : Fn → Fn
  | .yield l => .yield (l + s)
  | f => f
mutual
def sh (s : Nat) : Value → Value
  | .pointer a => .pointer (shA s a)
  | .slice a n c => .slice (shA s a) n c
  | .func f x y => .func (shF s f) (shR s x) (shR s y)
  | .iface t v => .iface t (sh s v)
  | .agg cs => .agg (shR s cs)
  | .tuple cs => .tuple (shR s cs)
  | v => v
def shR (s : Nat) : Array Value → Array Value
  | ⟨l⟩ => ⟨shL s l⟩
def shL (s : Nat) : List Value → List Value
  | [] => []
  | v :: l => sh s v :: shL s l
end
theorem shL_map (s : Nat) : ∀ l : List Value, shL s l = l.map (sh s)
  | [] => rfl
  | v :: l => by simp [shL, shL_map s l]
theorem shR_map (s : Nat) (a : Array Value) : shR s a = a.map (sh s) := by
  obtain ⟨l⟩ := a
  simp [shR, shL_map]

def shX (s : Nat) : X → X
  | .c v => .c (sh s v)
  | x => x
def shOp (s : Nat) : MOp → MOp
  | .mv x => .mv (shX s x)
  | .pick c a b => .pick (shX s c) (shX s a) (shX s b)
  | .new z e => .new (z.map (sh s)) e
  | .box e x => .box e (shX s x)
  | .build z ps => .build (z.map (sh s)) (ps.map fun p => (p.1, p.2.1, shX s p.2.2))
  | .lit e z ps len => .lit e (z.map (sh s)) (ps.map fun p => (p.1, p.2.1, shX s p.2.2)) len
  | .ld a => .ld (shX s a)
  | .lds n a => .lds n (shX s a)
  | .st n a x => .st n (shX s a) (shX s x)
  | .chk x => .chk (shX s x)
  | .bin op x y => .bin op (shX s x) (shX s y)
  | .eq neq k x y => .eq neq k (shX s x) (shX s y)
  | .not x => .not (shX s x)
  | .neg x => .neg (shX s x)
  | .cvt k x => .cvt k (shX s x)
  | .bytes e x => .bytes e (shX s x)
  | .fld o x => .fld o (shX s x)
  | .flds o n x => .flds o n (shX s x)
  | .fa o x => .fa o (shX s x)
  | .ia n x i => .ia n (shX s x) (shX s i)
  | .ix x i => .ix (shX s x) (shX s i)
  | .sl n x lo hi mx => .sl n (shX s x) (lo.map (shX s)) (hi.map (shX s)) (mx.map (shX s))
  | .sls x lo hi => .sls (shX s x) (lo.map (shX s)) (hi.map (shX s))
  | .mk e n b z l c => .mk e n b (z.map (sh s)) (shX s l) (shX s c)
  | .iface t x => .iface t (shX s x)
  | .ext x i => .ext (shX s x) i
  | .fn f caps => .fn f (caps.map (shX s))
  | .call f args => .call (shX s f) (args.map (shX s))
  | .app e n b z x y => .app e n b (z.map (sh s)) (shX s x) (shX s y)
  | .appz e n b z x y => .appz e n b (z.map (sh s)) (shX s x) (shX s y)
  | .cpy n d x => .cpy n (shX s d) (shX s x)
  | .len x => .len (shX s x)
  | .slen x => .slen (shX s x)
  | .cap x => .cap (shX s x)
  | .max2 x y => .max2 (shX s x) (shX s y)
  | .clr z x => .clr (z.map (sh s)) (shX s x)
  | .bad => .bad
def shMO (s : Nat) (o : MO) : MO := ⟨o.dst, shOp s o.op, o.guard, o.keep.map (shX s)⟩
def shC (s : Nat) : MCode → MCode
  | .skip => .skip
  | .reg ops => .reg (ops.map (shMO s))
  | .dreg l ops => .dreg l (ops.map (shMO s))
  | .seq a b => .seq (shC s a) (shC s b)
  | .ite c a b => .ite (shX s c) (shC s a) (shC s b)
  | .blk i c => .blk i (shC s c)
  | .loop c => .loop (shC s c)
  | .exit i => .exit i
  | .ret => .ret
  | .rangeF f ps a b => .rangeF (shX s f) ps (shC s a) (shC s b)
def shO (s : Nat) : AObj → AObj
  | .cells cs e kd v => .cells (cs.map (sh s)) e kd v
  | .dead v => .dead v
  | .loop tm ps a b st v => .loop (tm.map (sh s)) ps (shC s a) (shC s b) st v
/-- The heap behind another one. -/
def shH (G H : Heap) : Heap := G ++ H.map (shO G.length)
def shRes (G : Heap) (r : Value × Heap) : Value × Heap := (sh G.length r.1, shH G r.2)
variable {G H H' : Heap}
theorem shH_len : (shH G H).length = H.length + G.length := by simp [shH]; omega
theorem shH_get (i : Nat) : (shH G H)[i + G.length]? = (H[i]?).map (shO G.length) := by
  unfold shH
  rw [List.getElem?_append_right (by omega), Nat.add_sub_cancel, List.getElem?_map]
theorem shH_add (l : Heap) : shH G (H ++ l) = shH G H ++ l.map (shO G.length) := by simp [shH]
theorem shH_set (i : Nat) (o : AObj) : (shH G H).set (i + G.length) (shO G.length o) = shH G (H.set i o) := by
  unfold shH
  rw [List.set_append_right _ _ (by omega), Nat.add_sub_cancel, List.map_set]
theorem sh_flat (s : Nat) (v : Value) : flat (sh s v) = flat v := by cases v <;> rfl
theorem sh_flatL (s : Nat) (l : List Value) : (l.map (sh s)).all flat = l.all flat := by
  induction l with
  | nil => rfl
  | cons v l ih => simp [sh_flat, ih]
theorem sh_rd (i o : Nat) : rd (shH G H) (i + G.length) o = (rd H i o).map (sh G.length) := by
  unfold rd
  rw [shH_get]
  cases H[i]? with
  | none => rfl
  | some x => cases x <;> simp [shO]
theorem sh_rds (i o n : Nat) : rds (shH G H) (i + G.length) o n = (rds H i o n).map (·.map (sh G.length)) := by
  unfold rds
  rw [shH_get]
  cases H[i]? with
  | none => rfl
  | some x =>
    cases x <;> simp only [Option.map_some, shO, List.length_map, Option.map_none]
    split <;> simp [List.map_take, List.map_drop]
theorem sh_wr (i o : Nat) (vs : List Value) : wr (shH G H) (i + G.length) o (vs.map (sh G.length)) = (wr H i o vs).map (shH G) := by
  unfold wr
  rw [shH_get]
  cases H[i]? with
  | none => rfl
  | some x =>
    cases x <;> simp only [Option.map_some, shO, List.length_map, Option.map_none, sh_flatL]
    split
    · simp only [Option.map_some, ← shH_set, shO, List.map_append, List.map_take, List.map_drop]
    · rfl
theorem sh_ver (i : Nat) : ver (shH G H) (i + G.length) = ver H i := by
  unfold ver
  rw [shH_get]
  cases H[i]? with
  | none => rfl
  | some x => cases x <;> rfl
theorem sh_kdAt (i : Nat) : kdAt (shH G H) (i + G.length) = kdAt H i := by
  unfold kdAt
  rw [shH_get]
  cases H[i]? with
  | none => rfl
  | some x => cases x <;> rfl
theorem sh_kill (i : Nat) : kill (shH G H) (i + G.length) = shH G (kill H i) := by
  unfold kill
  rw [sh_ver, ← shH_set]
  rfl
theorem sh_cells (s : Nat) (v : Value) : (sh s v).cells = v.cells.map (sh s) := by
  cases v <;> simp [sh, Value.cells, shR_map]
theorem sh_cellsL (s : Nat) (v : Value) : (sh s v).cells.toList = v.cells.toList.map (sh s) := by
  rw [sh_cells]; simp
theorem sh_cellsN (s : Nat) (v : Value) : (sh s v).cells.size = v.cells.size := by
  rw [sh_cells]; simp
theorem sh_plain : ∀ {v : Value} {s : Nat}, plain v = true → sh s v = v
  | .iface t v, s, h => by
    have := sh_plain (v := v) (s := s) h
    simp [sh, this]
  | .pointer none, _, _ => rfl
  | .slice none _ _, _, _ => rfl
  | .bool _, _, _ => rfl
  | .int _ _, _, _ => rfl
  | .string _, _, _ => rfl
  | .nilFunc, _, _ => rfl
  | .nilIface, _, _ => rfl
  | .float _ _, _, _ => rfl
  | .complex _ _ _, _, _ => rfl
  | .map _, _, _ => rfl
  | .chan _, _, _ => rfl
  | .pointer (some _), _, h => by simp [plain] at h
  | .slice (some _) _ _, _, h => by simp [plain] at h
  | .func _ _ _, _, h => by simp [plain] at h
  | .agg _, _, h => by simp [plain] at h
  | .tuple _, _, h => by simp [plain] at h
theorem sh_plainL {s : Nat} {l : List Value} (h : l.all plain = true) : l.map (sh s) = l := by
  induction l with
  | nil => rfl
  | cons v l ih =>
    simp only [List.all_cons, Bool.and_eq_true] at h
    rw [List.map_cons, sh_plain h.1, ih h.2]
theorem sh_int {s : Nat} {v : Value} {k : IntKind} {n : Int} (h : sh s v = .int k n) : v = .int k n := by
  cases v <;> simp [sh] at h <;> simp [h]

section
variable {ρ : X → Value}
theorem sh_lay (s : Nat) : ∀ (ps : List (Nat × List Value)) (z : List Value), lay (z.map (sh s)) (ps.map fun p => (p.1, p.2.map (sh s))) = (lay z ps).map (·.map (sh s))
  | [], z => rfl
  | (o, vs) :: ps, z => by
    simp only [List.map_cons, lay, List.length_map]
    split
    · rw [← sh_lay s ps]
      simp [List.map_take, List.map_drop]
    · rfl
theorem sh_binV (op : BinOp) (x y : Value) (s : Nat) : binV op (sh s x) (sh s y) = binV op x y := by
  cases x <;> cases y <;> simp only [sh, binV]
theorem sh_binV2 {op : BinOp} {x y r : Value} (h : binV op x y = some r) (s : Nat) : sh s r = r := by
  refine sh_plain ?_
  unfold binV at h
  split at h
  · split at h
    · unfold shV at h
      split at h
      · cases h
      · cases h; rfl
    · unfold shV at h
      split at h
      · cases h
      · cases h; rfl
    · split at h
      · unfold intV at h
        split at h
        all_goals first
          | (cases h; done)
          | (cases h; rfl)
          | (split at h <;> first | (cases h; done) | (cases h; rfl))
      · cases h
  · unfold strV at h
    split at h
    all_goals first
      | (cases h; done)
      | (cases h; rfl)
      | (split at h <;> first | (cases h; done) | (cases h; rfl))
  · cases h
theorem sh_eqInts (s : Nat) (xs ys : Array Value) : ∀ offs, eqInts (shR s xs) (shR s ys) offs = eqInts xs ys offs
  | [] => rfl
  | o :: r => by
    simp only [eqInts, shR_map, Array.getElem?_map]
    rw [← shR_map, ← shR_map, sh_eqInts s xs ys r]
    cases xs[o]? with
    | none => rfl
    | some x =>
      cases ys[o]? with
      | none => cases x <;> rfl
      | some y => cases x <;> cases y <;> simp [sh]
theorem sh_eqV (k : EqK) (x y : Value) (s : Nat) : eqV k (sh s x) (sh s y) = eqV k x y := by
  cases k
  · cases x <;> cases y <;> simp [sh, eqV]
  · cases x <;> first | (cases y <;> rfl) | skip
    rename_i a _ _
    cases a <;> cases y <;> first | rfl | skip
    all_goals
      rename_i b _ _
      cases b <;> rfl
  · cases x <;> cases y <;> simp [sh, eqV, sh_eqInts]
  · cases x <;> cases y <;> simp [sh, eqV]
theorem sh_lenV (v : Value) (s : Nat) : lenV (sh s v) = lenV v := by cases v <;> rfl
theorem sh_len0 (v : Value) (s : Nat) : len0 (sh s v) = len0 v := by cases v <;> rfl
theorem sh_src (size n : Nat) (v : Value) : srcCells (shH G H) size n (sh G.length v) = (srcCells H size n v).map (·.map (sh G.length)) := by
  cases v <;> try rfl
  · rename_i s
    simp only [sh, srcCells, Option.map_some, Option.some.injEq, List.map_map]
    apply List.map_congr_left
    intro b _
    rfl
  · rename_i a l c
    cases a with
    | none => rfl
    | some a =>
      obtain ⟨b, o, sp⟩ := a
      cases sp with
      | none =>
        simp only [sh, shA, srcCells]
        split
        · rfl
        · exact sh_rds _ _ _
      | some k =>
        simp only [sh, shA, srcCells]
        split <;> rfl
theorem sh_app (e size bytes : Nat) (s : Value) (n : Nat) (new : List Value) : appV (shH G H) e size bytes (sh G.length s) n (new.map (sh G.length)) = (appV H e size bytes s n new).map (shRes G) := by
  cases s <;> try rfl
  rename_i a len cap
  cases a with
  | none =>
    simp only [sh, shA, appV, List.map_eq_nil_iff, shH_len]
    split
    · split <;> rfl
    · split
      · simp only [Option.map_some, shRes, sh, shA, shH_add, List.map_cons, List.map_nil, shO]
      · rfl
  | some a =>
    obtain ⟨b, o, sp⟩ := a
    cases sp with
    | some k => rfl
    | none =>
      simp only [sh, shA, appV, List.map_eq_nil_iff, shH_len, sh_wr, sh_rds, sh_kdAt, sh_flatL]
      split
      · split
        · rfl
        · cases wr H b (o + len * size) new <;> rfl
      · split
        · cases rds H b o (len * size) with
          | none => rfl
          | some old =>
            simp only [Option.map_some]
            cases (kdAt H b).spare with
            | none => simp only [Option.map_some, shRes, sh, shA, shH_add, List.map_cons, List.map_nil, shO, List.map_append]
            | some sz =>
              simp only
              split
              · simp only [Option.map_some, shRes, sh, shA, shH_add, List.map_cons, List.map_nil, shO, List.map_append, sh_kill]
              · rfl
        · rfl
theorem sh_cpy (base : Option Addr) (cells : List Value) : cpyH (shH G H) (shA G.length base) (cells.map (sh G.length)) = (cpyH H base cells).map (shH G) := by
  cases base with
  | none => simp only [shA, cpyH, List.map_eq_nil_iff]; split <;> rfl
  | some a =>
    obtain ⟨b, o, sp⟩ := a
    cases sp with
    | some k => rfl
    | none =>
      simp only [shA, cpyH, List.map_eq_nil_iff, sh_wr]
      split <;> rfl
theorem sh_slV (size : Nat) (nm : Bool) (a : Option Addr) (h l m : Nat) : slV (shH G H) size nm (shA G.length a) h l m = (slV H size nm a h l m).map (sh G.length) := by
  cases a with
  | none => rfl
  | some a =>
    obtain ⟨b, o, sp⟩ := a
    cases sp with
    | some k => rfl
    | none =>
      simp only [shA, slV, sh_kdAt]
      cases (kdAt H b).spare with
      | none => simp only; split <;> rfl
      | some sz =>
        simp only
        split
        · split <;> rfl
        · split <;> rfl
end
theorem ev_sh (s : Nat) (tm : Tm) (x : X) : ev (tm.map (sh s)) (shX s x) = sh s (ev tm x) := by
  cases x with
  | c v => rfl
  | f n => rfl
  | t n =>
    simp only [ev, shX, List.getD_eq_getElem?_getD, List.getElem?_map]
    cases tm[n]? <;> rfl
theorem sh_bnd (s : Nat) (tm : Tm) (x : Option X) (d y : Nat) : bnd (x.map (shX s)) (ev (tm.map (sh s))) d y = bnd x (ev tm) d y := by
  cases x with
  | none => rfl
  | some x =>
    simp only [bnd, Option.map_some, ev_sh]
    cases h : ev tm x <;> simp only [sh]
theorem sh_parts (s : Nat) (tm : Tm) (ps : List (Nat × Nat × X)) : partsOf (ev (tm.map (sh s))) (ps.map fun p => (p.1, p.2.1, shX s p.2.2)) = (partsOf (ev tm) ps).map (·.map fun p => (p.1, p.2.map (sh s))) := by
  induction ps with
  | nil => rfl
  | cons p ps ih =>
    obtain ⟨o, n, x⟩ := p
    simp only [List.map_cons, partsOf, sh_cellsN, ev_sh]
    split
    · rw [ih]
      cases partsOf (ev tm) ps <;> simp [sh_cellsL]
    · rfl
theorem sh_zeros (s : Nat) (z : List Value) : ∀ n : Nat, zeros (z.map (sh s)) n = (zeros z n).map (sh s)
  | 0 => rfl
  | n + 1 => by simp only [zeros, sh_zeros s z n, List.map_append]
theorem map_opt {α β γ : Type} (o : Option α) (f : α → β) (g : β → γ) : (o.map f).map g = o.map fun x => g (f x) := by cases o <;> rfl
/-- An operation that calls nothing, behind another heap. -/
theorem sh_opV {tm : Tm} (op : MOp) : opV (ev (tm.map (sh G.length))) (shH G H) (shOp G.length op) = (opV (ev tm) H op).map (shRes G) := by
  cases op with
  | mv x => simp only [opV, shOp, ev_sh]; rfl
  | pick c a b => simp only [opV, shOp, ev_sh]; cases ev tm c <;> try rfl
                  rename_i t
                  cases t <;> rfl
  | new z e => simp only [opV, shOp, ev_sh, Option.map_some, shRes, newAt, ptr, sh, shA, shH_len, shH_add, List.map_cons, List.map_nil, shO]
  | box e x => simp only [opV, shOp, ev_sh, Option.map_some, shRes, newAt, ptr, sh, shA, shH_len, shH_add, List.map_cons, List.map_nil, shO, sh_cellsL]
  | build z ps =>
    simp only [opV, shOp, ev_sh, sh_parts]
    cases partsOf (ev tm) ps with
    | none => rfl
    | some l =>
      simp only [Option.map_some]
      have := sh_lay G.length l z
      rw [this]
      cases lay z l with
      | none => rfl
      | some cs => simp [shRes, sh, shR_map]
  | lit e z ps len =>
    simp only [opV, shOp, ev_sh, sh_parts]
    cases partsOf (ev tm) ps with
    | none => rfl
    | some l =>
      simp only [Option.map_some]
      have := sh_lay G.length l (zeros z len)
      rw [sh_zeros, this]
      cases lay (zeros z len) l with
      | none => rfl
      | some cs => simp only [Option.map_some, shRes, sh, shA, shH_len, shH_add, List.map_cons, List.map_nil, shO]
  | ld a =>
    simp only [opV, shOp, ev_sh]
    cases ev tm a <;> try rfl
    rename_i a
    rcases a with _ | ⟨b, o, _ | k⟩ <;> try rfl
    simp only [sh, shA, sh_rd]
    cases rd H b o <;> rfl
  | lds n a =>
    simp only [opV, shOp, ev_sh]
    cases ev tm a <;> try rfl
    rename_i a
    rcases a with _ | ⟨b, o, _ | k⟩ <;> try rfl
    simp only [sh, shA, sh_rds]
    cases rds H b o n with
    | none => rfl
    | some l => simp [shRes, sh, shR_map]
  | st n a x =>
    simp only [opV, shOp, ev_sh]
    cases ev tm a <;> try rfl
    rename_i a
    rcases a with _ | ⟨b, o, _ | k⟩ <;> try rfl
    simp only [sh, shA, sh_cellsN, sh_cellsL, sh_wr]
    split
    · cases wr H b o (ev tm x).cells.toList <;> rfl
    · rfl
  | chk x =>
    simp only [opV, shOp, ev_sh]
    cases ev tm x <;> try rfl
    · rename_i a
      cases a <;> rfl
    · rename_i f _ _
      cases f <;> rfl
  | bin op x y =>
    simp only [opV, shOp, ev_sh, sh_binV]
    cases h : binV op (ev tm x) (ev tm y) with
    | none => rfl
    | some r => simp [shRes, sh_binV2 h]
  | eq neq k x y =>
    simp only [opV, shOp, ev_sh, sh_eqV]
    cases eqV k (ev tm x) (ev tm y) <;> rfl
  | not x => simp only [opV, shOp, ev_sh]; cases ev tm x <;> rfl
  | neg x => simp only [opV, shOp, ev_sh]; cases ev tm x <;> rfl
  | cvt k x => simp only [opV, shOp, ev_sh]; cases ev tm x <;> rfl
  | bytes e x =>
    simp only [opV, shOp, ev_sh]
    cases ev tm x <;> try rfl
    simp only [sh]
    split
    · have : ∀ l : List UInt8, (l.map fun b => Value.int .u8 b.toNat).map (sh G.length) = l.map fun b => Value.int .u8 b.toNat := fun l => by
        rw [List.map_map]; exact List.map_congr_left fun b _ => rfl
      simp only [Option.map_some, shRes, sh, shA, shH_len, shH_add, List.map_cons, List.map_nil, shO, this]
    · rfl
  | fld off x =>
    simp only [opV, shOp, ev_sh]
    cases ev tm x <;> try rfl
    rename_i cs
    simp only [sh, shR_map, Array.getElem?_map]
    cases cs[off]? <;> rfl
  | flds off n x =>
    simp only [opV, shOp, ev_sh]
    cases ev tm x <;> try rfl
    simp [sh, shR_map, shRes]
  | fa off x =>
    simp only [opV, shOp, ev_sh]
    cases ev tm x <;> try rfl
    rename_i a
    rcases a with _ | ⟨b, o, _ | k⟩ <;> rfl
  | ia size x i =>
    simp only [opV, shOp, ev_sh]
    cases ev tm x <;> try rfl
    rename_i a n c
    rcases a with _ | ⟨b, o, _ | k⟩
    · cases ev tm i <;> rfl
    · cases ev tm i <;> try rfl
      simp only [sh, shA]
      split <;> rfl
    · cases ev tm i <;> rfl
  | ix x i =>
    simp only [opV, shOp, ev_sh]
    cases ev tm x <;> try rfl
    rename_i s
    cases ev tm i <;> try rfl
    rename_i j
    simp only [sh]
    split
    · cases s[j.toNat]? <;> rfl
    · rfl
  | sl size x lo hi mx =>
    simp only [opV, shOp, ev_sh]
    cases ev tm x <;> try rfl
    rename_i a n c
    simp only [sh, sh_bnd]
    cases bnd mx (ev tm) c c with
    | none => rfl
    | some m =>
      simp only
      cases bnd hi (ev tm) n m with
      | none => rfl
      | some h =>
        simp only
        cases bnd lo (ev tm) 0 h with
        | none => rfl
        | some l =>
          have e : (mx.map (shX G.length)).isNone = mx.isNone := by cases mx <;> rfl
          simp only [sh_slV, e]
          cases slV H size mx.isNone a h l m <;> rfl
  | sls x lo hi =>
    simp only [opV, shOp, ev_sh]
    cases ev tm x <;> try rfl
    rename_i s
    simp only [sh, sh_bnd]
    cases bnd hi (ev tm) s.size s.size with
    | none => rfl
    | some h =>
      simp only
      cases bnd lo (ev tm) 0 h <;> rfl
  | mk e size bytes z len cap =>
    simp only [opV, shOp, ev_sh]
    cases ev tm len <;> try rfl
    rename_i k l
    cases k <;> try (cases ev tm cap <;> rfl)
    cases ev tm cap <;> try rfl
    rename_i k c
    cases k <;> try rfl
    simp only [sh]
    split
    · simp only [Option.map_some, shRes, sh, shA, shH_len, shH_add, List.map_cons, List.map_nil, shO, sh_zeros]
    · rfl
  | iface t x => simp only [opV, shOp, ev_sh]; rfl
  | ext x i =>
    simp only [opV, shOp, ev_sh]
    cases ev tm x <;> try rfl
    rename_i vs
    simp only [sh, shR_map, Array.getElem?_map]
    cases vs[i]? <;> rfl
  | fn f caps => simp [opV, shOp, ev_sh, shRes, sh, shF, shR_map]
  | app e size bytes z s x =>
    simp only [opV, shOp, ev_sh, sh_lenV, sh_src]
    cases lenV (ev tm x) with
    | none => rfl
    | some n =>
      simp only
      cases srcCells H size n (ev tm x) with
      | none => rfl
      | some new =>
        simp only [Option.map_some, List.length_map, sh_app]
        split <;> rfl
  | appz e size bytes z s x =>
    simp only [opV, shOp, ev_sh]
    cases ev tm x <;> try rfl
    rename_i k n
    cases k <;> try rfl
    simp only [sh, sh_len0]
    split
    · rw [← sh_app, sh_zeros]
    · rfl
  | cpy size d s =>
    simp only [opV, shOp, ev_sh, sh_lenV]
    cases ev tm d <;> try rfl
    rename_i base dl c
    cases lenV (ev tm s) with
    | none => rfl
    | some sl =>
      simp only [sh, sh_src]
      cases srcCells H size (min sl dl) (ev tm s) with
      | none => rfl
      | some cells =>
        simp only [Option.map_some, sh_cpy]
        cases cpyH H base cells <;> rfl
  | len x => simp only [opV, shOp, ev_sh]; cases ev tm x <;> rfl
  | slen x => simp only [opV, shOp, ev_sh]; cases ev tm x <;> rfl
  | cap x =>
    simp only [opV, shOp, ev_sh]
    cases ev tm x <;> try rfl
    rename_i a n c
    rcases a with _ | ⟨b, o, _ | k⟩ <;> try rfl
    simp only [sh, shA, sh_kdAt]
    cases (kdAt H b).spare <;> rfl
  | max2 x y =>
    simp only [opV, shOp, ev_sh]
    cases ev tm x <;> try rfl
    cases ev tm y <;> rfl
  | clr z x =>
    simp only [opV, shOp, ev_sh]
    cases ev tm x <;> try rfl
    rename_i a n c
    rcases a with _ | ⟨b, o, _ | k⟩ <;> try rfl
    · simp only [sh, shA]
      split <;> rfl
    · simp only [sh, shA]
      split
      · rfl
      · rw [sh_zeros, sh_wr]
        cases wr H b o (zeros z n) <;> rfl
  | call f args => rfl
  | bad => rfl

/-! ### Code, calls -/
def shT (s : Nat) : Tgt → Tgt
  | .fn g => .fn g
  | .round l => .round (l + s)
/-- Calls do not care. -/
def Comm (G : Heap) (C : CallF) : Prop := ∀ t args H, C (shT G.length t) (args.map (sh G.length)) (shH G H) = (C t args H).map (shRes G)
variable {C : CallF}
theorem sh_opC (hC : Comm G C) {tm : Tm} (op : MOp) : opC C (ev (tm.map (sh G.length))) (shH G H) (shOp G.length op) = (opC C (ev tm) H op).map (shRes G) := by
  by_cases hc : ∃ f args, op = .call f args
  · obtain ⟨f, args, rfl⟩ := hc
    simp only [shOp, opC, ev_sh]
    have ha : (args.map (shX G.length)).map (ev (tm.map (sh G.length))) = (args.map (ev tm)).map (sh G.length) := by
      rw [List.map_map, List.map_map]; exact List.map_congr_left fun x _ => ev_sh _ _ _
    rw [ha]
    cases ev tm f <;> try rfl
    rename_i fn first cap
    cases fn <;> try rfl
    · simp only [sh, shF, shR_map]
      rename_i g
      have := hC (.fn g) (first.toList ++ args.map (ev tm) ++ cap.toList) H
      simp only [shT, List.map_append] at this
      simpa using this
    · simp only [sh, shF, shR_map, Array.size_map]
      rename_i l
      split
      · exact hC (.round l) _ H
      · rfl
  · have e : ∀ ρ H, opC C ρ H op = opV ρ H op := fun ρ H => by cases op <;> first | rfl | exact absurd ⟨_, _, rfl⟩ hc
    have e2 : ∀ ρ H, opC C ρ H (shOp G.length op) = opV ρ H (shOp G.length op) := fun ρ H => by cases op <;> first | rfl | exact absurd ⟨_, _, rfl⟩ hc
    rw [e, e2]
    exact sh_opV op
theorem sh_put (s : Nat) (tm : Tm) (d : Option Nat) (v : Value) : (put tm d v).map (sh s) = put (tm.map (sh s)) d (sh s v) := by
  cases d with
  | none => rfl
  | some d => simp [put, List.map_set]
theorem sh_getD (s : Nat) (tm : Tm) (t : Nat) : (tm.map (sh s)).getD t undefV = sh s (tm.getD t undefV) := by
  simp only [List.getD_eq_getElem?_getD, List.getElem?_map]
  cases tm[t]? <;> rfl
theorem sh_wants (s : Nat) (tm : Tm) (g : Option (Nat × Bool)) : wants (tm.map (sh s)) g = wants tm g := by
  cases g with
  | none => rfl
  | some p =>
    obtain ⟨t, b⟩ := p
    simp only [wants, sh_getD]
    cases tm.getD t undefV <;> rfl
theorem sh_kept (tm : Tm) (H H' : Heap) (x : X) : kept (tm.map (sh G.length)) (shH G H) (shH G H') (shX G.length x) = kept tm H H' x := by
  unfold kept
  rw [ev_sh]
  have e : ∀ i, (decide (i + G.length < (shH G H).length) && ver (shH G H) (i + G.length) == ver (shH G H') (i + G.length)) = (decide (i < H.length) && ver H i == ver H' i) := fun i => by
    rw [sh_ver, sh_ver, shH_len]
    congr 2
    simp
  cases ev tm x <;> try rfl
  · rename_i a
    rcases a with _ | ⟨b, o, _ | k⟩ <;> try rfl
    exact e b
  · rename_i a _ _
    rcases a with _ | ⟨b, o, _ | k⟩ <;> try rfl
    exact e b
def shTH (G : Heap) (r : Tm × Heap) : Tm × Heap := (r.1.map (sh G.length), shH G r.2)
theorem sh_runO (hC : Comm G C) {tm : Tm} (o : MO) : runO C (tm.map (sh G.length)) (shH G H) (shMO G.length o) = (runO C tm H o).map (shTH G) := by
  unfold runO
  simp only [shMO, sh_wants, sh_opC hC]
  split
  · cases opC C (ev tm) H o.op with
    | none => rfl
    | some r =>
      obtain ⟨v, H'⟩ := r
      simp only [Option.map_some, shRes, List.all_map]
      have : (kept (tm.map (sh G.length)) (shH G H) (shH G H') ∘ shX G.length) = kept tm H H' := funext fun x => sh_kept tm H H' x
      rw [this]
      split
      · simp only [Option.map_some, shTH, sh_put]
      · rfl
  · simp only [Option.map_some, shTH, sh_put]; rfl
theorem sh_runOs (hC : Comm G C) : ∀ (ops : List MO) (tm : Tm) (H : Heap), runOs C (ops.map (shMO G.length)) (tm.map (sh G.length)) (shH G H) = (runOs C ops tm H).map (shTH G)
  | [], tm, H => rfl
  | o :: r, tm, H => by
    simp only [List.map_cons, runOs, sh_runO hC]
    cases runO C tm H o with
    | none => rfl
    | some x => exact sh_runOs hC r x.1 x.2
def shE (G : Heap) (r : Ex × Tm × Heap) : Ex × Tm × Heap := (r.1, r.2.1.map (sh G.length), shH G r.2.2)
theorem sh_iter {f f' : Tm → Heap → Res} (h : ∀ tm H, f' (tm.map (sh G.length)) (shH G H) = (f tm H).map (shE G)) : ∀ (n : Nat) (tm : Tm) (H : Heap), iter f' n (tm.map (sh G.length)) (shH G H) = (iter f n tm H).map (shE G)
  | 0, _, _ => rfl
  | n + 1, tm, H => by
    simp only [iter, h]
    cases f tm H with
    | none => rfl
    | some r =>
      obtain ⟨e, tm', H'⟩ := r
      cases e
      · exact sh_iter h n tm' H'
      · rfl
      · rfl
theorem sh_exec (hC : Comm G C) (n : Nat) : ∀ (c : MCode) (tm : Tm) (H : Heap), exec C n (shC G.length c) (tm.map (sh G.length)) (shH G H) = (exec C n c tm H).map (shE G)
  | .skip, tm, H => rfl
  | .ret, tm, H => rfl
  | .exit _, tm, H => rfl
  | .reg ops, tm, H => by
    simp only [shC, exec, sh_runOs hC]
    cases runOs C ops tm H <;> rfl
  | .dreg _ ops, tm, H => by
    simp only [shC, exec, sh_runOs hC]
    cases runOs C ops tm H <;> rfl
  | .seq a b, tm, H => by
    simp only [shC, exec, sh_exec hC n a]
    cases exec C n a tm H with
    | none => rfl
    | some r =>
      obtain ⟨e, tm', H'⟩ := r
      cases e
      · exact sh_exec hC n b tm' H'
      · rfl
      · rfl
  | .ite x a b, tm, H => by
    simp only [shC, exec, ev_sh]
    cases ev tm x <;> try rfl
    rename_i t
    cases t
    · exact sh_exec hC n b tm H
    · exact sh_exec hC n a tm H
  | .blk id c, tm, H => by
    simp only [shC, exec, sh_exec hC n c]
    cases exec C n c tm H with
    | none => rfl
    | some r =>
      obtain ⟨e, tm', H'⟩ := r
      cases e
      · rfl
      · simp only [Option.map_some, shE]
        split <;> rfl
      · rfl
  | .loop c, tm, H => sh_iter (fun tm H => sh_exec hC n c tm H) n tm H
  | .rangeF f ps a b, tm, H => by
    simp only [shC, exec, ev_sh]
    cases ev tm f <;> try rfl
    rename_i fn first cap
    cases fn <;> try rfl
    rename_i g
    simp only [sh, shF, shR_map]
    have e1 : (shH G H ++ [AObj.loop (tm.map (sh G.length)) ps (shC G.length a) (shC G.length b) .ready 0]) = shH G (H ++ [.loop tm ps a b .ready 0]) := by rw [shH_add]; rfl
    have e2 := hC (.fn g) (first.toList ++ [.func (.yield H.length) #[] #[]] ++ cap.toList) (H ++ [.loop tm ps a b .ready 0])
    simp only [shT, List.map_append, List.map_cons, List.map_nil, sh, shF] at e2
    have e3 : shR G.length #[] = #[] := rfl
    rw [e3] at e2
    rw [shH_len, e1]
    have e4 : (first.map (sh G.length)).toList = first.toList.map (sh G.length) := by simp
    have e5 : (cap.map (sh G.length)).toList = cap.toList.map (sh G.length) := by simp
    rw [e4, e5, e2]
    cases C (.fn g) (first.toList ++ [.func (.yield H.length) #[] #[]] ++ cap.toList) (H ++ [.loop tm ps a b .ready 0]) with
    | none => rfl
    | some r =>
      obtain ⟨v, H'⟩ := r
      simp only [Option.map_some, shRes, shH_get]
      cases H'[H.length]? with
      | none => rfl
      | some o =>
        cases o with
        | cells _ _ _ _ => rfl
        | dead _ => rfl
        | loop tm2 ps2 a2 b2 st v2 =>
          simp only [Option.map_some, shO]
          cases st with
          | ready => simp only [Option.map_some, shE, sh_kill]
          | busy => rfl
          | done e =>
            simp only
            split
            · rfl
            · simp only [Option.map_some, shE, sh_kill]
theorem sh_res (tm : Tm) (H : Heap) (r : MRes) : resOf (tm.map (sh G.length)) (shH G H) r = (resOf tm H r).map (sh G.length) := by
  cases r with
  | t n => simp only [resOf, sh_getD, Option.map_some]
  | cell n size =>
    simp only [resOf, sh_getD]
    cases tm.getD n undefV <;> try rfl
    rename_i a
    rcases a with _ | ⟨b, o, _ | k⟩ <;> try rfl
    simp only [sh, shA]
    cases size with
    | none => exact sh_rd _ _
    | some k =>
      simp only [sh_rds]
      cases rds H b o k with
      | none => rfl
      | some l => simp [sh, shR_map]
theorem sh_resAll (tm : Tm) (H : Heap) : ∀ rs : List MRes, resAll (tm.map (sh G.length)) (shH G H) rs = (resAll tm H rs).map (·.map (sh G.length))
  | [] => rfl
  | r :: rs => by
    simp only [resAll, sh_res, sh_resAll tm H rs]
    cases resOf tm H r with
    | none => rfl
    | some v =>
      cases resAll tm H rs <;> rfl
theorem sh_one (s : Nat) (vs : List Value) : one (vs.map (sh s)) = sh s (one vs) := by
  match vs with
  | [] => rfl
  | [v] => rfl
  | v :: w :: l => simp [one, sh, shR_map]
theorem sh_setAll (s : Nat) : ∀ (ps : List Nat) (args : List Value) (tm : Tm), (setAll tm ps args).map (sh s) = setAll (tm.map (sh s)) ps (args.map (sh s))
  | [], _, _ => by simp [setAll]
  | _ :: _, [], _ => by simp [setAll]
  | p :: ps, v :: vs, tm => by
    simp only [setAll, List.map_cons, sh_setAll s ps vs, List.map_set]
theorem sh_setLoop (H : Heap) (l : Nat) (st : LSt) : setLoop (shH G H) (l + G.length) st = shH G (setLoop H l st) := by
  unfold setLoop
  rw [shH_get]
  cases H[l]? with
  | none => rfl
  | some o =>
    cases o with
    | cells _ _ _ _ => rfl
    | dead _ => rfl
    | loop tm ps a b st2 v =>
      simp only [Option.map_some, shO]
      rw [← shH_set]; rfl
theorem sh_round {ex ex' : MCode → Tm → Heap → Res} (h : ∀ c tm H, ex' (shC G.length c) (tm.map (sh G.length)) (shH G H) = (ex c tm H).map (shE G)) (l : Nat) (args : List Value) (H : Heap) :
    roundM ex' (l + G.length) (args.map (sh G.length)) (shH G H) = (roundM ex l args H).map (shRes G) := by
  unfold roundM
  rw [shH_get]
  cases H[l]? with
  | none => rfl
  | some o =>
    cases o with
    | cells _ _ _ _ => rfl
    | dead _ => rfl
    | loop tm ps a b st v =>
      cases st with
      | busy => rfl
      | done e => rfl
      | ready =>
        simp only [Option.map_some, shO, List.length_map]
        split
        · rw [← sh_setAll, h]
          cases ex a (setAll tm ps args) H with
          | none => rfl
          | some r =>
            obtain ⟨e, tm1, H1⟩ := r
            cases e
            · simp only [Option.map_some, shE, shH_get]
              cases H1[l]? with
              | none => rfl
              | some o =>
                cases o with
                | cells _ _ _ _ => rfl
                | dead _ => rfl
                | loop tm2 ps2 a2 b2 st2 v2 =>
                  cases st2 with
                  | busy => rfl
                  | done e => rfl
                  | ready =>
                    simp only [Option.map_some, shO, sh_setLoop, h]
                    cases ex b tm1 (setLoop H1 l .busy) with
                    | none => rfl
                    | some r =>
                      obtain ⟨e, tm3, H3⟩ := r
                      simp only [Option.map_some, shE, shH_get]
                      cases H3[l]? with
                      | none => rfl
                      | some o =>
                        cases o with
                        | cells _ _ _ _ => rfl
                        | dead _ => rfl
                        | loop tm4 ps4 a4 b4 st4 v4 =>
                          cases st4 with
                          | ready => rfl
                          | done e => rfl
                          | busy =>
                            simp only [Option.map_some, shO]
                            split
                            · simp only [Option.map_some, shRes, sh, sh_setLoop]
                            · simp only [Option.map_some, shRes, sh, sh_setLoop]
            · rfl
            · rfl
        · rfl
/-- Code without addresses is left as it is. -/
theorem shX_id {s : Nat} {x : X} (h : okX x = true) : shX s x = x := by
  cases x with
  | c v => simp only [shX, sh_plain h]
  | _ => rfl
theorem shXs_id {s : Nat} {l : List X} (h : l.all okX = true) : l.map (shX s) = l := by
  induction l with
  | nil => rfl
  | cons x l ih =>
    simp only [List.all_cons, Bool.and_eq_true] at h
    rw [List.map_cons, shX_id h.1, ih h.2]
theorem shXo_id {s : Nat} {x : Option X} (h : okO x = true) : x.map (shX s) = x := by
  cases x with
  | none => rfl
  | some x => rw [Option.map_some, shX_id h]
theorem shPs_id {s : Nat} {ps : List (Nat × Nat × X)} (h : (ps.all fun p => okX p.2.2) = true) : (ps.map fun p => (p.1, p.2.1, shX s p.2.2)) = ps := by
  induction ps with
  | nil => rfl
  | cons p l ih =>
    simp only [List.all_cons, Bool.and_eq_true] at h
    rw [List.map_cons, shX_id h.1, ih h.2]
/-- .. nor its zero values. -/
def okZ : MOp → Bool
  | .new z _ => z.all plain
  | .build z _ => z.all plain
  | .lit _ z _ _ => z.all plain
  | .mk _ _ _ z _ _ => z.all plain
  | .app _ _ _ z _ _ => z.all plain
  | .appz _ _ _ z _ _ => z.all plain
  | .clr z _ => z.all plain
  | _ => true
theorem shOp_id {s : Nat} {op : MOp} (h : okOp op = true) (hz : okZ op = true) : shOp s op = op := by
  cases op <;> simp only [okOp, Bool.and_eq_true] at h <;> simp only [okZ] at hz <;> simp only [shOp]
  case mv => rw [shX_id h]
  case pick => rw [shX_id h.1.1, shX_id h.1.2, shX_id h.2]
  case new => rw [sh_plainL hz]
  case box => rw [shX_id h]
  case build => rw [sh_plainL hz, shPs_id h]
  case lit => rw [sh_plainL hz, shPs_id h]
  case ld => rw [shX_id h]
  case lds => rw [shX_id h]
  case st => rw [shX_id h.1, shX_id h.2]
  case chk => rw [shX_id h]
  case bin => rw [shX_id h.1, shX_id h.2]
  case eq => rw [shX_id h.1, shX_id h.2]
  case not => rw [shX_id h]
  case neg => rw [shX_id h]
  case cvt => rw [shX_id h]
  case bytes => rw [shX_id h]
  case fld => rw [shX_id h]
  case flds => rw [shX_id h]
  case fa => rw [shX_id h]
  case ia => rw [shX_id h.1, shX_id h.2]
  case ix => rw [shX_id h.1, shX_id h.2]
  case sl => rw [shX_id h.1.1.1, shXo_id h.1.1.2, shXo_id h.1.2, shXo_id h.2]
  case sls => rw [shX_id h.1.1, shXo_id h.1.2, shXo_id h.2]
  case mk => rw [sh_plainL hz, shX_id h.1, shX_id h.2]
  case iface => rw [shX_id h]
  case ext => rw [shX_id h]
  case fn => rw [shXs_id h]
  case call => rw [shX_id h.1, shXs_id h.2]
  case app => rw [sh_plainL hz, shX_id h.1, shX_id h.2]
  case appz => rw [sh_plainL hz, shX_id h.1, shX_id h.2]
  case cpy => rw [shX_id h.1, shX_id h.2]
  case len => rw [shX_id h]
  case slen => rw [shX_id h]
  case cap => rw [shX_id h]
  case max2 => rw [shX_id h.1, shX_id h.2]
  case clr => rw [sh_plainL hz, shX_id h]
def okA : MCode → Bool
  | .skip => true
  | .reg ops => ops.all fun o => okOp o.op && okZ o.op && o.keep.all okX
  | .dreg _ ops => ops.all fun o => okOp o.op && okZ o.op && o.keep.all okX
  | .seq a b => okA a && okA b
  | .ite x a b => okX x && okA a && okA b
  | .blk _ c => okA c
  | .loop c => okA c
  | .exit _ => true
  | .ret => true
  | .rangeF f _ a b => okX f && okA a && okA b
theorem shMOs_id {s : Nat} {ops : List MO} (h : (ops.all fun o => okOp o.op && okZ o.op && o.keep.all okX) = true) : ops.map (shMO s) = ops := by
  induction ops with
  | nil => rfl
  | cons o l ih =>
    simp only [List.all_cons, Bool.and_eq_true] at h
    rw [List.map_cons, ih h.2]
    simp only [shMO, shOp_id h.1.1.1 h.1.1.2, shXs_id h.1.2]
theorem shC_id {s : Nat} : ∀ {c : MCode}, okA c = true → shC s c = c
  | .skip, _ => rfl
  | .ret, _ => rfl
  | .exit _, _ => rfl
  | .reg ops, h => by simp only [shC, shMOs_id h]
  | .dreg _ ops, h => by simp only [shC, shMOs_id h]
  | .seq a b, h => by
    simp only [okA, Bool.and_eq_true] at h
    simp only [shC, shC_id h.1, shC_id h.2]
  | .ite x a b, h => by
    simp only [okA, Bool.and_eq_true] at h
    simp only [shC, shX_id h.1.1, shC_id h.1.2, shC_id h.2]
  | .blk _ c, h => by simp only [shC, shC_id (c := c) h]
  | .loop c, h => by simp only [shC, shC_id (c := c) h]
  | .rangeF f _ a b, h => by
    simp only [okA, Bool.and_eq_true] at h
    simp only [shC, shX_id h.1.1, shC_id h.1.2, shC_id h.2]
theorem sh_callM {T : Tab} (hT : ∀ f mf, T f = some mf → okA mf.body = true) : ∀ k, Comm G (callM T (fun _ => none) k)
  | 0 => fun t args H => rfl
  | k + 1 => by
    have ih := sh_callM hT k
    intro t args H
    cases t with
    | round l => exact sh_round (fun c tm H => sh_exec ih k c tm H) l args H
    | fn f =>
      simp only [shT, callM]
      cases hf : T f with
      | none => rfl
      | some mf =>
        simp only
        have e1 : args.map (sh G.length) ++ List.replicate (mf.ntmps - (args.map (sh G.length)).length) undefV = (args ++ List.replicate (mf.ntmps - args.length) undefV).map (sh G.length) := by
          rw [List.map_append, List.map_replicate, List.length_map]; rfl
        have e2 := sh_exec ih k mf.body (args ++ List.replicate (mf.ntmps - args.length) undefV) H
        rw [shC_id (hT f mf hf)] at e2
        rw [e1, e2]
        cases exec (callM T (fun _ => none) k) k mf.body (args ++ List.replicate (mf.ntmps - args.length) undefV) H with
        | none => rfl
        | some r =>
          obtain ⟨e, tm, H'⟩ := r
          cases e
          · simp only [Option.map_some, shE, sh_resAll]
            cases resAll tm H' mf.results with
            | none => rfl
            | some vs => simp only [Option.map_some, shRes, sh_one]
          · rfl
          · simp only [Option.map_some, shE, sh_resAll]
            cases resAll tm H' mf.results with
            | none => rfl
            | some vs => simp only [Option.map_some, shRes, sh_one]
/-- A call without arguments that was run answers so anywhere. -/
theorem Closed.run {T : Tab} (hT : ∀ f mf, T f = some mf → okA mf.body = true) {k f : Nat} {r : Value} {H' : Heap} (h : callM T (fun _ => none) k (.fn f) [] [] = some (r, H')) (hr : plain r = true) : Closed T (fun _ => none) f [] (.v r) := by
  intro B H as hB hA
  have has : as = [] := List.eq_nil_of_length_eq_zero hA.1.symm
  subst has
  have e := sh_callM hT k (G := H) (.fn f) [] []
  rw [h] at e
  have e0 : shH H [] = H := by simp [shH]
  rw [e0] at e
  refine ⟨k, sh H.length r, shH H H', e, ⟨H'.map (shO H.length), rfl⟩, ?_⟩
  rw [sh_plain hr]
  exact .v hr
end Dm
